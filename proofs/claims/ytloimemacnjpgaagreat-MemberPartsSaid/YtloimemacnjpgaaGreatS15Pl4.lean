/- The plain laws of values: a sequence without one of its parts. -/
import Derived.Test.YtloimemacnjpgaaGreatS15RwM
import Derived.Test.YtloimemacnjpgaaGreatAbsSo
import Derived.Test.YtloimemacnjpgaaGreatAbsZn
set_option linter.all false
namespace Go.Abs.Fr
open Go Go.Abs Go.Proofs
set_option linter.unusedSimpArgs false
set_option maxRecDepth 100000

/-- The i-th of what is chosen is left out. -/
def er : List (Option Val) → Nat → List (Option Val)
  | none :: c, i => none :: er c i
  | some _ :: c, 0 => none :: c
  | some y :: c, i + 1 => some y :: er c i
  | [], _ => []
def mustAt (np : Nat) : Nat → List Fld → List (Option Val) → Nat → Bool
  | k, _ :: fs, none :: c, i => mustAt np (k + 1) fs c i
  | k, f :: _, some _ :: _, 0 => must np k f
  | k, _ :: fs, some _ :: c, i + 1 => mustAt np (k + 1) fs c i
  | _, _, _, _ => false
theorem er_len : ∀ (c : List (Option Val)) (i : Nat), (er c i).length = c.length
  | none :: c, i => by simp [er, er_len c i]
  | some _ :: c, 0 => by simp [er]
  | some y :: c, i + 1 => by simp [er, er_len c i]
  | [], _ => rfl
theorem er_N : ∀ (fs : List Fld) (c : List (Option Val)) (i : Nat), c.length = fs.length → chN fs (er c i) = (chN fs c).eraseIdx i
  | f :: fs, none :: c, i, h => by simp only [er, chN]; exact er_N fs c i (by simpa using h)
  | f :: fs, some _ :: c, 0, h => by simp [er, chN]
  | f :: fs, some y :: c, i + 1, h => by simp only [er, chN, List.eraseIdx_cons_succ]; rw [er_N fs c i (by simpa using h)]
  | [], [], i, _ => by simp [er, chN]
  | [], _ :: _, _, h => by simp at h
  | _ :: _, [], _, h => by simp at h
theorem er_L : ∀ (c : List (Option Val)) (i : Nat), (er c i).filterMap id = (c.filterMap id).eraseIdx i
  | none :: c, i => by simp only [er, List.filterMap_cons, id]; exact er_L c i
  | some _ :: c, 0 => by simp [er]
  | some y :: c, i + 1 => by simp only [er, List.filterMap_cons, id, List.eraseIdx_cons_succ]; rw [er_L c i]
  | [], i => by simp [er]
theorem er_ok {B : Int → Val → Bool} {np : Nat} : ∀ (fs : List Fld) (c : List (Option Val)) (k i : Nat), chOkW B np k fs c → i < (c.filterMap id).length → (chOkW B np k fs (er c i) ↔ mustAt np k fs c i = false)
  | f :: fs, none :: c, k, i, h, hi => by
    simp only [er, chOkW, mustAt]
    rw [er_ok fs c (k + 1) i h.2 (by simpa using hi)]
    exact ⟨fun h => h.2, fun h' => ⟨h.1, h'⟩⟩
  | f :: fs, some y :: c, k, 0, h, hi => by
    simp only [er, chOkW, mustAt]
    exact ⟨fun h => h.1, fun h' => ⟨h', h.2⟩⟩
  | f :: fs, some y :: c, k, i + 1, h, hi => by
    simp only [er, chOkW, mustAt]
    rw [er_ok fs c (k + 1) i h.2 (by simpa using hi)]
    exact ⟨fun h => h.2, fun h' => ⟨h.1, h'⟩⟩
  | [], [], k, i, h, hi => by simp at hi
  | [], _ :: _, _, _, h, _ => h.elim
  | _ :: _, [], _, _, h, _ => h.elim
theorem mustAt_iff {np : Nat} : ∀ (fs : List Fld) (c : List (Option Val)) (k i : Nat) (x : ByteArray), Dist fs → c.length = fs.length → (chN fs c)[i]? = some x → (mustAt np k fs c i = true ↔ ∃ j f, fs[j]? = some f ∧ f.name = x ∧ must np (k + j) f = true)
  | f :: fs, none :: c, k, i, x, hd, hl, hx => by
    simp only [chN] at hx
    simp only [mustAt]
    rw [mustAt_iff fs c (k + 1) i x hd.cons.2 (by simpa using hl) hx]
    obtain ⟨g, hg, e⟩ := chN_sub fs c x (List.mem_of_getElem? hx)
    constructor
    · rintro ⟨j, f', h1, h2, h3⟩; exact ⟨j + 1, f', by simpa using h1, h2, by rw [← Nat.add_assoc, Nat.add_right_comm]; exact h3⟩
    · rintro ⟨j, f', h1, h2, h3⟩
      cases j with
      | zero => simp at h1; subst h1; exact absurd (e.trans h2.symm) (hd.cons.1 g hg)
      | succ j => exact ⟨j, f', by simpa using h1, h2, by rw [← Nat.add_assoc, Nat.add_right_comm] at h3; exact h3⟩
  | f :: fs, some y :: c, k, 0, x, hd, hl, hx => by
    simp only [chN, List.getElem?_cons_zero, Option.some.injEq] at hx
    simp only [mustAt]
    constructor
    · intro h; exact ⟨0, f, rfl, hx, h⟩
    · rintro ⟨j, f', h1, h2, h3⟩
      cases j with
      | zero => simp at h1; subst h1; exact h3
      | succ j => exact absurd (h2.trans hx.symm) (hd.cons.1 f' (List.mem_of_getElem? (by simpa using h1)))
  | f :: fs, some y :: c, k, i + 1, x, hd, hl, hx => by
    simp only [chN, List.getElem?_cons_succ] at hx
    simp only [mustAt]
    rw [mustAt_iff fs c (k + 1) i x hd.cons.2 (by simpa using hl) hx]
    obtain ⟨g, hg, e⟩ := chN_sub fs c x (List.mem_of_getElem? hx)
    constructor
    · rintro ⟨j, f', h1, h2, h3⟩; exact ⟨j + 1, f', by simpa using h1, h2, by rw [← Nat.add_assoc, Nat.add_right_comm]; exact h3⟩
    · rintro ⟨j, f', h1, h2, h3⟩
      cases j with
      | zero => simp at h1; subst h1; exact absurd (e.trans h2.symm) (hd.cons.1 g hg)
      | succ j => exact ⟨j, f', by simpa using h1, h2, by rw [← Nat.add_assoc, Nat.add_right_comm] at h3; exact h3⟩
  | [], [], k, i, x, hd, hl, hx => by simp [chN] at hx
  | [], _ :: _, _, _, _, _, h, _ => by simp at h
  | _ :: _, [], _, _, _, _, h, _ => by simp at h

def Val.setNL (v : Val) (ns : List ByteArray) (l : List Val) : Val := .mk v.kind v.n v.s ns l v.ok
/-- Must a part of the first row be there? -/
def mustN (r : Dsc) (x : ByteArray) : Bool := r.parts.any fun f => decide (f.name = x) && (!f.opt && decide (f.dfl.length = 0))
theorem mustN_iff {r : Dsc} {x : ByteArray} : mustN r x = true ↔ ∃ j f, r.fields[j]? = some f ∧ f.name = x ∧ must r.parts.length (0 + j) f = true := by
  simp only [mustN, List.any_eq_true, Bool.and_eq_true, decide_eq_true_eq, must, Nat.zero_add]
  constructor
  · rintro ⟨f, hf, h1, h2⟩
    obtain ⟨j, hj, rfl⟩ := List.getElem_of_mem hf
    exact ⟨j, _, by rw [Dsc.fields, List.getElem?_append_left hj, List.getElem?_eq_getElem hj], h1, hj, h2⟩
  · rintro ⟨j, f, h1, h2, h3, h4⟩
    rw [Dsc.fields, List.getElem?_append_left h3] at h1
    exact ⟨f, List.mem_of_getElem? h1, h2, h4⟩
theorem parts_law {d : List Dsc} {v : Val} (h : checkT d v = 0) (hk : v.kind = 8) {i : Nat} {x : ByteArray} (hx : v.names[i]? = some x) :
    checkT d (v.setNL (v.names.eraseIdx i) (v.l.eraseIdx i)) = bif mustN (rowAt d 0) x then 4 else 0 := by
  obtain ⟨hr, hv⟩ := check_iff.1 h
  obtain ⟨a1, b1, c1⟩ := check_kind h
  obtain ⟨hok, hpos⟩ := tab_ok hr
  have hin : inT d 0 := ⟨Int.le_refl _, by omega⟩
  have hdist := tab_dist hr _ (rowAt_mem hin)
  have h8 : (rowAt d 0).kind = 8 := by rw [← a1]; exact hk
  have c2 := c1
  simp only [kindF, h8, Int.reduceEq, decide_true, decide_false, cond_true, cond_false, seqF, Bool.and_eq_true, decide_eq_true_eq] at c2
  obtain ⟨c, q1, q2, q3⟩ := seqW_to _ _ _ _ c2.1 c2.2
  have hcl := chOkW_len q1
  have hil : i < (c.filterMap id).length := by rw [q3, ← c2.1]; exact (List.getElem?_eq_some_iff.1 hx).1
  have hm := mustAt_iff (np := (rowAt d 0).parts.length) (rowAt d 0).fields c 0 i x hdist hcl (by rw [q2]; exact hx)
  have hme := er_ok (rowAt d 0).fields c 0 i q1 hil
  have hN := er_N (rowAt d 0).fields c i hcl
  have hL := er_L c i
  rw [q2] at hN
  rw [q3] at hL
  have hel : (v.names.eraseIdx i).length = (v.l.eraseIdx i).length := by rw [List.length_eraseIdx, List.length_eraseIdx, c2.1]
  -- whether it is of the row
  have key : hasV d 40 0 (v.setNL (v.names.eraseIdx i) (v.l.eraseIdx i)) = seqW (hasV d 39) (rowAt d 0).parts.length 0 (rowAt d 0).fields (v.names.eraseIdx i) (v.l.eraseIdx i) := by
    show hasF (hasV d 39) false (rowAt d 0) _ = _
    have hb : bareV (v.setNL (v.names.eraseIdx i) (v.l.eraseIdx i)) = true := by
      have e : bareV (v.setNL (v.names.eraseIdx i) (v.l.eraseIdx i)) = ((decide (v.kind = 1) || decide (v.kind = 2) || decide (v.n = 0)) && (parted v.kind || decide ((v.l.eraseIdx i).length = 0)) &&
        ((!(decide (v.kind = 1) || decide (v.kind = 2)) && (!decide (v.kind = 4) && (!decide (v.kind = 8) && !decide (v.kind = 9)))) || decide (v.s = ⟨#[]⟩)) && (decide (v.kind = 8) || decide ((v.names.eraseIdx i).length = 0))) := rfl
      rw [e]
      have b2 := b1
      simp only [bareV, hk, parted, Int.reduceEq, decide_true, decide_false, Bool.false_or, Bool.true_or, Bool.or_true, Bool.and_true, Bool.true_and, Bool.not_false, Bool.not_true, Bool.and_false, Bool.false_and] at b2 ⊢
      exact b2
    have hkk : (v.setNL (v.names.eraseIdx i) (v.l.eraseIdx i)).kind = (rowAt d 0).kind := a1
    have hkf : kindF (hasV d 39) (rowAt d 0) (v.setNL (v.names.eraseIdx i) (v.l.eraseIdx i)) = seqF (hasV d 39) (rowAt d 0) (v.setNL (v.names.eraseIdx i) (v.l.eraseIdx i)) := by
      simp only [kindF, h8, Int.reduceEq, decide_true, decide_false, cond_true, cond_false]
    rw [hasF, hb, hkk, hkf]
    simp only [Bool.false_and, Bool.not_false, decide_true, Bool.true_and, seqF]
    show (decide ((v.names.eraseIdx i).length = (v.l.eraseIdx i).length) && _) = _
    rw [decide_eq_true hel, Bool.true_and]
    rfl
  cases hmn : mustN (rowAt d 0) x
  · have h0 : mustAt (rowAt d 0).parts.length 0 (rowAt d 0).fields c i = false := by
      cases hh : mustAt (rowAt d 0).parts.length 0 (rowAt d 0).fields c i
      · rfl
      · have := mustN_iff.2 (hm.1 hh); rw [hmn] at this; cases this
    have := seqW_of _ _ _ hdist (hme.2 h0)
    rw [hN, hL] at this
    exact check_iff.2 ⟨hr, by rw [key]; exact this⟩
  · have h0 : mustAt (rowAt d 0).parts.length 0 (rowAt d 0).fields c i = true := hm.2 (mustN_iff.1 hmn)
    have hs : seqW (hasV d 39) (rowAt d 0).parts.length 0 (rowAt d 0).fields (v.names.eraseIdx i) (v.l.eraseIdx i) = false := by
      cases hh : seqW (hasV d 39) (rowAt d 0).parts.length 0 (rowAt d 0).fields (v.names.eraseIdx i) (v.l.eraseIdx i)
      · rfl
      · obtain ⟨c2', p1, p2, p3⟩ := seqW_to _ _ _ _ hel hh
        have := ch_unique _ _ _ hdist (chOkW_len p1) (by rw [er_len]; exact hcl) (p2.trans hN.symm) (p3.trans hL.symm)
        rw [this] at p1
        have := hme.1 p1
        rw [h0] at this; cases this
    have hdp : deepV 40 (v.setNL (v.names.eraseIdx i) (v.l.eraseIdx i)) = false := by
      have := (check0 h).2.1
      simp only [deepV, Bool.and_eq_false_iff, List.any_eq_false] at this ⊢
      rcases this with h | h
      · exact .inl h
      · exact .inr fun y hy => h y (List.mem_of_mem_eraseIdx hy)
    simp [checkT, hr, hdp, key, hs]
end Go.Abs.Fr

namespace Go.Abs.Fr
open Go Go.Abs Go.Proofs
set_option linter.unusedSimpArgs false
set_option maxRecDepth 100000

/-- spandrel/spandrellaw15.MemberParts -/
def ac6 : ACode := (.seq (.region [⟨(some 4), (.box (.tmp 1)), none⟩, ⟨(some 6), (.move (.const (.bool false))), none⟩]) (.seq (.region [⟨(some 14), (.call (.func 8) []), none⟩, ⟨(some 7), (.move (.tmp 14)), none⟩]) (.seq (.seq (.region [⟨(some 15), (.move (.tmp 0)), none⟩, ⟨(some 16), (.call (.func 9) [((.tmp 15), false)]), none⟩, ⟨(some 17), (.un .not (.tmp 16)), none⟩, ⟨(some 18), (.move (.tmp 17)), none⟩, ⟨(some 19), (.load (some 5) (.tmp 4)), (some (18, false))⟩, ⟨(some 20), (.call (.func 10) [((.tmp 19), false)]), (some (18, false))⟩, ⟨(some 21), (.un .not (.tmp 20)), (some (18, false))⟩, ⟨(some 22), (.pick (.tmp 18) (.const (.bool true)) (.tmp 21)), none⟩, ⟨(some 23), (.move (.tmp 22)), none⟩, ⟨(some 24), (.fieldAddr 0 (.tmp 4)), (some (23, false))⟩, ⟨(some 25), (.load none (.tmp 24)), (some (23, false))⟩, ⟨(some 26), (.bin .neq (.tmp 25) (.const (.int .i64 8))), (some (23, false))⟩, ⟨(some 27), (.pick (.tmp 23) (.const (.bool true)) (.tmp 26)), none⟩, ⟨(some 28), (.move (.tmp 27)), none⟩, ⟨(some 29), (.fieldAddr 3 (.tmp 4)), (some (28, false))⟩, ⟨(some 30), (.load none (.tmp 29)), (some (28, false))⟩, ⟨(some 31), (.len false (.tmp 30)), (some (28, false))⟩, ⟨(some 32), (.bin .eql (.tmp 31) (.const (.int .i64 0))), (some (28, false))⟩, ⟨(some 33), (.pick (.tmp 28) (.const (.bool true)) (.tmp 32)), none⟩, ⟨(some 34), (.move (.tmp 33)), none⟩, ⟨(some 35), (.move (.tmp 0)), (some (34, false))⟩, ⟨(some 36), (.load (some 5) (.tmp 4)), (some (34, false))⟩, ⟨(some 37), (.call (.func 15) [((.tmp 35), false), ((.tmp 36), false)]), (some (34, false))⟩, ⟨(some 38), (.bin .neq (.tmp 37) (.const (.int .i64 0))), (some (34, false))⟩, ⟨(some 39), (.pick (.tmp 34) (.const (.bool true)) (.tmp 38)), none⟩]) (.cond (.tmp 39) (.seq (.region [⟨(some 40), (.move (.tmp 7)), none⟩, ⟨(some 6), (.move (.tmp 40)), none⟩]) .ret) .skip)) (.seq (.region [⟨(some 41), (.move (.tmp 2)), none⟩, ⟨(some 42), (.bin .and (.tmp 41) (.const (.int .i64 65535))), none⟩, ⟨(some 43), (.fieldAddr 3 (.tmp 4)), none⟩, ⟨(some 44), (.load none (.tmp 43)), none⟩, ⟨(some 45), (.len false (.tmp 44)), none⟩, ⟨(some 46), (.bin .rem (.tmp 42) (.tmp 45)), none⟩, ⟨(some 8), (.move (.tmp 46)), none⟩]) (.seq (.region [⟨(some 47), (.load (some 5) (.tmp 4)), none⟩, ⟨(some 9), (.alloc [(.lit (.int .i64 0)), (.lit (.int .i64 0)), (.lit (.string (⟨#[]⟩ : ByteArray))), (.sl .full []), (.sl .full [])]), none⟩, ⟨none, (.store 5 (.tmp 9) (.tmp 47)), none⟩]) (.seq (.seq (.eff [⟨(some 48), (.buildSlice false 1 [(.lit (.string (⟨#[]⟩ : ByteArray)))] 0 []), none⟩, ⟨(some 49), (.fieldAddr 3 (.tmp 4)), none⟩, ⟨(some 50), (.load none (.tmp 49)), none⟩, ⟨(some 51), (.move (.tmp 8)), none⟩, ⟨(some 52), (.slice 1 (.tmp 50) none (some (.tmp 51))), none⟩, ⟨(some 53), (.appendO 1 16 [(.lit (.string (⟨#[]⟩ : ByteArray)))] (.tmp 48) (.tmp 52)), none⟩, ⟨(some 54), (.fieldAddr 3 (.tmp 4)), none⟩, ⟨(some 55), (.load none (.tmp 54)), none⟩, ⟨(some 56), (.move (.tmp 8)), none⟩, ⟨(some 57), (.bin .add (.tmp 56) (.const (.int .i64 1))), none⟩, ⟨(some 58), (.slice 1 (.tmp 55) (some (.tmp 57)) none), none⟩, ⟨(some 59), (.appendO 1 16 [(.lit (.string (⟨#[]⟩ : ByteArray)))] (.tmp 53) (.tmp 58)), none⟩] [false, false, false, false, false, true, false, false, false, false, false, true]) (.region [⟨(some 60), (.fieldAddr 3 (.tmp 9)), none⟩, ⟨none, (.store 1 (.tmp 60) (.tmp 59)), none⟩])) (.seq (.seq (.eff [⟨(some 61), (.buildSlice false 5 [(.lit (.int .i64 0)), (.lit (.int .i64 0)), (.lit (.string (⟨#[]⟩ : ByteArray))), (.sl .full []), (.sl .full [])] 0 []), none⟩, ⟨(some 62), (.fieldAddr 4 (.tmp 4)), none⟩, ⟨(some 63), (.load none (.tmp 62)), none⟩, ⟨(some 64), (.move (.tmp 8)), none⟩, ⟨(some 65), (.slice 5 (.tmp 63) none (some (.tmp 64))), none⟩, ⟨(some 66), (.appendO 5 80 [(.lit (.int .i64 0)), (.lit (.int .i64 0)), (.lit (.string (⟨#[]⟩ : ByteArray))), (.sl .full []), (.sl .full [])] (.tmp 61) (.tmp 65)), none⟩, ⟨(some 67), (.fieldAddr 4 (.tmp 4)), none⟩, ⟨(some 68), (.load none (.tmp 67)), none⟩, ⟨(some 69), (.move (.tmp 8)), none⟩, ⟨(some 70), (.bin .add (.tmp 69) (.const (.int .i64 1))), none⟩, ⟨(some 71), (.slice 5 (.tmp 68) (some (.tmp 70)) none), none⟩, ⟨(some 72), (.appendO 5 80 [(.lit (.int .i64 0)), (.lit (.int .i64 0)), (.lit (.string (⟨#[]⟩ : ByteArray))), (.sl .full []), (.sl .full [])] (.tmp 66) (.tmp 71)), none⟩] [false, false, false, false, false, true, false, false, false, false, false, true]) (.region [⟨(some 73), (.fieldAddr 4 (.tmp 9)), none⟩, ⟨none, (.store 1 (.tmp 73) (.tmp 72)), none⟩])) (.seq (.region [⟨(some 10), (.move (.const (.bool false))), none⟩]) (.seq (.seq (.region [⟨(some 11), (.move (.const (.int .i64 0))), none⟩]) (.block 0 (.loop (.seq (.seq (.region [⟨(some 74), (.move (.tmp 11)), none⟩, ⟨(some 75), (.move (.tmp 0)), none⟩, ⟨(some 76), (.indexAddr 12 (.tmp 75) (.const (.int .i64 0))), none⟩, ⟨(some 77), (.fieldAddr 8 (.tmp 76)), none⟩, ⟨(some 78), (.load none (.tmp 77)), none⟩, ⟨(some 79), (.len false (.tmp 78)), none⟩, ⟨(some 80), (.bin .lss (.tmp 74) (.tmp 79)), none⟩]) (.cond (.tmp 80) .skip (.exit 0))) (.seq (.block 1 (.seq (.region [⟨(some 83), (.move (.tmp 0)), none⟩, ⟨(some 84), (.indexAddr 12 (.tmp 83) (.const (.int .i64 0))), none⟩, ⟨(some 85), (.fieldAddr 8 (.tmp 84)), none⟩, ⟨(some 86), (.load none (.tmp 85)), none⟩, ⟨(some 87), (.move (.tmp 11)), none⟩, ⟨(some 88), (.indexAddr 4 (.tmp 86) (.tmp 87)), none⟩, ⟨(some 89), (.load (some 4) (.tmp 88)), none⟩, ⟨(some 12), (.alloc [(.lit (.string (⟨#[]⟩ : ByteArray))), (.lit (.int .i64 0)), (.lit (.bool false)), (.sl .full [])]), none⟩, ⟨none, (.store 4 (.tmp 12) (.tmp 89)), none⟩]) (.draw [⟨(some 90), (.move (.tmp 10)), none⟩, ⟨(some 91), (.move (.tmp 90)), none⟩, ⟨(some 92), (.fieldAddr 0 (.tmp 12)), (some (91, false))⟩, ⟨(some 93), (.load none (.tmp 92)), (some (91, false))⟩, ⟨(some 94), (.fieldAddr 3 (.tmp 4)), (some (91, false))⟩, ⟨(some 95), (.load none (.tmp 94)), (some (91, false))⟩, ⟨(some 96), (.move (.tmp 8)), (some (91, false))⟩, ⟨(some 97), (.indexAddr 1 (.tmp 95) (.tmp 96)), (some (91, false))⟩, ⟨(some 98), (.load none (.tmp 97)), (some (91, false))⟩, ⟨(some 99), (.bin .eql (.tmp 93) (.tmp 98)), (some (91, false))⟩, ⟨(some 100), (.move (.tmp 99)), (some (91, false))⟩, ⟨(some 101), (.fieldAddr 2 (.tmp 12)), (some (100, true))⟩, ⟨(some 102), (.load none (.tmp 101)), (some (100, true))⟩, ⟨(some 103), (.un .not (.tmp 102)), (some (100, true))⟩, ⟨(some 104), (.pick (.tmp 100) (.tmp 103) (.const (.bool false))), (some (91, false))⟩, ⟨(some 105), (.move (.tmp 104)), (some (91, false))⟩, ⟨(some 106), (.fieldAddr 3 (.tmp 12)), (some (105, true))⟩, ⟨(some 107), (.load none (.tmp 106)), (some (105, true))⟩, ⟨(some 108), (.len false (.tmp 107)), (some (105, true))⟩, ⟨(some 109), (.bin .eql (.tmp 108) (.const (.int .i64 0))), (some (105, true))⟩, ⟨(some 110), (.pick (.tmp 105) (.tmp 109) (.const (.bool false))), (some (91, false))⟩, ⟨(some 111), (.pick (.tmp 91) (.const (.bool true)) (.tmp 110)), none⟩, ⟨(some 10), (.move (.tmp 111)), none⟩]))) (.region [⟨(some 81), (.move (.tmp 11)), none⟩, ⟨(some 82), (.bin .add (.tmp 81) (.const (.int .i64 1))), none⟩, ⟨(some 11), (.move (.tmp 82)), none⟩])))))) (.seq (.region [⟨(some 112), (.move (.tmp 0)), none⟩, ⟨(some 113), (.load (some 5) (.tmp 9)), none⟩, ⟨(some 114), (.call (.func 15) [((.tmp 112), false), ((.tmp 113), false)]), none⟩, ⟨(some 13), (.move (.tmp 114)), none⟩]) (.seq (.region [⟨(some 115), (.move (.tmp 7)), none⟩, ⟨(some 116), (.move (.tmp 115)), none⟩, ⟨(some 117), (.move (.tmp 10)), (some (116, true))⟩, ⟨(some 118), (.move (.tmp 117)), (some (116, true))⟩, ⟨(some 119), (.move (.tmp 13)), (some (118, true))⟩, ⟨(some 120), (.bin .eql (.tmp 119) (.const (.int .i64 4))), (some (118, true))⟩, ⟨(some 121), (.pick (.tmp 118) (.tmp 120) (.const (.bool false))), (some (116, true))⟩, ⟨(some 122), (.move (.tmp 121)), (some (116, true))⟩, ⟨(some 123), (.move (.tmp 10)), (some (122, false))⟩, ⟨(some 124), (.un .not (.tmp 123)), (some (122, false))⟩, ⟨(some 125), (.move (.tmp 124)), (some (122, false))⟩, ⟨(some 126), (.move (.tmp 13)), (some (125, true))⟩, ⟨(some 127), (.bin .eql (.tmp 126) (.const (.int .i64 0))), (some (125, true))⟩, ⟨(some 128), (.pick (.tmp 125) (.tmp 127) (.const (.bool false))), (some (122, false))⟩, ⟨(some 129), (.pick (.tmp 122) (.const (.bool true)) (.tmp 128)), (some (116, true))⟩, ⟨(some 130), (.pick (.tmp 116) (.tmp 129) (.const (.bool false))), none⟩, ⟨(some 6), (.move (.tmp 130)), none⟩]) .ret)))))))))))
theorem c6 : cfn E0.P [(6,1024),(6,5),(6,505),(6,11),(6,511),(7,1024),(7,5),(7,505),(7,11),(7,511)] Tryz.f6 = some (ac6, [(.tmp 6)], 131) := by kernel_rfl

theorem slot_lent {H : List AObj} {lo k : Nat} {z es : List AV} {s : AV} (hs : SlotOk H lo z es s) (hfit : Fit k es) (hone : allOne es) (hu : unders 0 (flatC es) = true) (hlow : lows es = es) : ∃ a', Lent2 H s a' ∧ a'.low = .sl .unk es ∧ (∀ k es, a' ≠ .sl (.own k) es) := by
  rcases hs with ⟨rfl, rfl⟩ | ⟨id, cap, rfl, h2, h3, h4⟩
  · exact ⟨.sl .full [], .same rfl, rfl, fun k es => by simp⟩
  · exact ⟨.sl .unk es, .many h2 (dyn_take hfit) hfit hone rfl hu, by simp only [AV.low, hlow], fun k es => by simp⟩
theorem mxB_erase : ∀ (l : List ByteArray) (i : Nat), mxB (l.eraseIdx i) ≤ mxB l
  | [], _ => by simp
  | a :: l, 0 => by simp only [List.eraseIdx_cons_zero, mxB]; omega
  | a :: l, i + 1 => by
    have := mxB_erase l i
    have := List.length_eraseIdx_le l i
    simp only [List.eraseIdx_cons_succ, mxB]; omega
theorem mxVs_erase : ∀ (l : List Val) (i : Nat), mxVs (l.eraseIdx i) ≤ mxVs l
  | [], _ => by simp
  | a :: l, 0 => by simp only [List.eraseIdx_cons_zero, mxVs]; omega
  | a :: l, i + 1 => by
    have := mxVs_erase l i
    have := List.length_eraseIdx_le l i
    simp only [List.eraseIdx_cons_succ, mxVs]; omega
theorem mx_setNL {v : Val} (hv : mxV v ≤ 2 ^ 47) (i : Nat) : mxV (v.setNL (v.names.eraseIdx i) (v.l.eraseIdx i)) ≤ 2 ^ 48 := by
  have h1 := mxV_eq (v.setNL (v.names.eraseIdx i) (v.l.eraseIdx i))
  have h2 := mxV_eq v
  have e1 : (v.setNL (v.names.eraseIdx i) (v.l.eraseIdx i)).s = v.s := rfl
  have e2 : (v.setNL (v.names.eraseIdx i) (v.l.eraseIdx i)).names = v.names.eraseIdx i := rfl
  have e3 : (v.setNL (v.names.eraseIdx i) (v.l.eraseIdx i)).l = v.l.eraseIdx i := rfl
  rw [e1, e2, e3] at h1
  have := mxB_erase v.names i
  have := mxVs_erase v.l i
  omega
theorem seq_len {d : List Dsc} {v : Val} (h : checkT d v = 0) (hk : v.kind = 8) : v.names.length = v.l.length := by
  obtain ⟨a1, b1, c1⟩ := check_kind h
  have h8 : (rowAt d 0).kind = 8 := by rw [← a1]; exact hk
  simp only [kindF, h8, Int.reduceEq, decide_true, decide_false, cond_true, cond_false, seqF, Bool.and_eq_true, decide_eq_true_eq] at c1
  exact c1.1
theorem andM (n : Int) : ∃ m : Nat, ibits .and .i64 n 65535 = (m : Int) ∧ m ≤ 65535 := by
  refine ⟨((BitVec.ofInt 64 n) &&& (BitVec.ofInt 64 65535)).toNat, ?_, ?_⟩
  · have : ((BitVec.ofInt 64 n) &&& (BitVec.ofInt 64 65535)).toNat ≤ 65535 := by
      rw [BitVec.toNat_and]
      exact Nat.and_le_right
    show IntKind.i64.wrap ((((BitVec.ofInt 64 n) &&& (BitVec.ofInt 64 65535)).toNat : Nat) : Int) = _
    rw [wrap_i64] <;> omega
  · rw [BitVec.toNat_and]
    exact Nat.and_le_right
theorem imod (k : Int) (n : Nat) (h : 0 < n) : ∃ i : Nat, i < n ∧ (ibits .and .i64 k 65535).tmod (n : Int) = (i : Int) := by
  obtain ⟨m, hm, _⟩ := andM k
  exact ⟨m % n, Nat.mod_lt _ h, by rw [hm]; rfl⟩
set_option maxHeartbeats 4000000 in
theorem parts_ev (d : List Dsc) (v : Val) (k : Int) (hw : Wide d) (hv : mxV v ≤ 2 ^ 47) (hk : InR k) (h : List AObj) : EvR E0 6 [dscl d, valv v, i64 k] h (boolv true) := by
  refine Ev.drop rfl ?_
  refine ev_of (fn := Tryz.f6) (hs := [(6,1024),(6,5),(6,505),(6,11),(6,511),(7,1024),(7,5),(7,505),(7,11),(7,511)]) Tryz.func6 c6 (by simp) fun hcl => ?_
  have haw := fun h => awake_ev h
  have hsm := fun h => small_ev d hw h
  have hfe := fun h => few1_ev v hv h
  simp only [valv_eq] at hfe
  have hpl := hpl h
  have gv : ∀ J : List AObj, (h ++ [AObj.cells [i64 v.kind, i64 v.n, str v.s, strl v.names, vall v.l]] ++ J)[h.length]? = some (AObj.cells [i64 v.kind, i64 v.n, str v.s, strl v.names, vall v.l]) := fun J => by simp
  cases hss : smallT d
  · rw [hss] at hsm
    simp only [ac6, valv_eq, aw20, List.take_succ_cons, List.take_zero, List.drop_zero, List.drop_succ_cons, List.length_map, ↓awD, awP, Nat.reduceLeDiff, Nat.reduceEqDiff, Nat.reduceAdd, Nat.zero_add, Int.cast_ofNat_Int, Int.reduceLT, Int.reduceLE, Int.reduceEq]
    ((first | refine EvF.ret (haw _) ?_ | refine EvRF.ret (haw _) ?_); simp only [aw21, aw21, aw20, List.take_succ_cons, List.take_zero, List.drop_zero, List.drop_succ_cons, List.length_map, ↓awD, awP, Nat.reduceLeDiff, Nat.reduceEqDiff, Nat.reduceAdd, Nat.zero_add, Int.cast_ofNat_Int, Int.reduceLT, Int.reduceLE, Int.reduceEq])
    ((first | refine EvF.ret (hsm _) ?_ | refine EvRF.ret (hsm _) ?_); simp only [aw21, aw21, aw20, List.take_succ_cons, List.take_zero, List.drop_zero, List.drop_succ_cons, List.length_map, ↓awD, awP, Nat.reduceLeDiff, Nat.reduceEqDiff, Nat.reduceAdd, Nat.zero_add, Int.cast_ofNat_Int, Int.reduceLT, Int.reduceLE, Int.reduceEq])
    exact Fin.all (by simp) ⟨rfl, _, rfl⟩
  · rw [hss] at hsm
    obtain ⟨hBD, hdl⟩ := wide_bd hw hss
    cases hff : fewT1 v
    · rw [hff] at hfe
      simp only [ac6, valv_eq, aw20, List.take_succ_cons, List.take_zero, List.drop_zero, List.drop_succ_cons, List.length_map, ↓awD, awP, Nat.reduceLeDiff, Nat.reduceEqDiff, Nat.reduceAdd, Nat.zero_add, Int.cast_ofNat_Int, Int.reduceLT, Int.reduceLE, Int.reduceEq]
      ((first | refine EvF.ret (haw _) ?_ | refine EvRF.ret (haw _) ?_); simp only [aw21, aw21, aw20, List.take_succ_cons, List.take_zero, List.drop_zero, List.drop_succ_cons, List.length_map, ↓awD, awP, Nat.reduceLeDiff, Nat.reduceEqDiff, Nat.reduceAdd, Nat.zero_add, Int.cast_ofNat_Int, Int.reduceLT, Int.reduceLE, Int.reduceEq])
      ((first | refine EvF.ret (hsm _) ?_ | refine EvRF.ret (hsm _) ?_); simp only [aw21, aw21, aw20, List.take_succ_cons, List.take_zero, List.drop_zero, List.drop_succ_cons, List.length_map, ↓awD, awP, Nat.reduceLeDiff, Nat.reduceEqDiff, Nat.reduceAdd, Nat.zero_add, Int.cast_ofNat_Int, Int.reduceLT, Int.reduceLE, Int.reduceEq])
      ((first | refine EvF.ret (hfe _) ?_ | refine EvRF.ret (hfe _) ?_); simp only [aw21, aw21, aw20, List.take_succ_cons, List.take_zero, List.drop_zero, List.drop_succ_cons, List.length_map, ↓awD, awP, Nat.reduceLeDiff, Nat.reduceEqDiff, Nat.reduceAdd, Nat.zero_add, Int.cast_ofNat_Int, Int.reduceLT, Int.reduceLE, Int.reduceEq])
      exact Fin.all (by simp) ⟨rfl, _, rfl⟩
    · rw [hff] at hfe
      cases k8 : decide (v.kind = 8)
      · simp only [ac6, valv_eq, aw20, List.take_succ_cons, List.take_zero, List.drop_zero, List.drop_succ_cons, List.length_map, ↓awD, awP, Nat.reduceLeDiff, Nat.reduceEqDiff, Nat.reduceAdd, Nat.zero_add, Int.cast_ofNat_Int, Int.reduceLT, Int.reduceLE, Int.reduceEq]
        ((first | refine EvF.ret (haw _) ?_ | refine EvRF.ret (haw _) ?_); simp only [aw21, aw21, aw20, List.take_succ_cons, List.take_zero, List.drop_zero, List.drop_succ_cons, List.length_map, ↓awD, awP, Nat.reduceLeDiff, Nat.reduceEqDiff, Nat.reduceAdd, Nat.zero_add, Int.cast_ofNat_Int, Int.reduceLT, Int.reduceLE, Int.reduceEq])
        ((first | refine EvF.ret (hsm _) ?_ | refine EvRF.ret (hsm _) ?_); simp only [aw21, aw21, aw20, List.take_succ_cons, List.take_zero, List.drop_zero, List.drop_succ_cons, List.length_map, ↓awD, awP, Nat.reduceLeDiff, Nat.reduceEqDiff, Nat.reduceAdd, Nat.zero_add, Int.cast_ofNat_Int, Int.reduceLT, Int.reduceLE, Int.reduceEq])
        ((first | refine EvF.ret (hfe _) ?_ | refine EvRF.ret (hfe _) ?_); simp only [hpl, k8, aw21, aw20, List.take_succ_cons, List.take_zero, List.drop_zero, List.drop_succ_cons, List.length_map, ↓awD, awP, Nat.reduceLeDiff, Nat.reduceEqDiff, Nat.reduceAdd, Nat.zero_add, Int.cast_ofNat_Int, Int.reduceLT, Int.reduceLE, Int.reduceEq])
        exact Fin.all (by simp) ⟨rfl, _, rfl⟩
      cases n0 : decide ((v.names.length : Int) = 0)
      rotate_left
      · simp only [ac6, valv_eq, aw20, List.take_succ_cons, List.take_zero, List.drop_zero, List.drop_succ_cons, List.length_map, ↓awD, awP, Nat.reduceLeDiff, Nat.reduceEqDiff, Nat.reduceAdd, Nat.zero_add, Int.cast_ofNat_Int, Int.reduceLT, Int.reduceLE, Int.reduceEq]
        ((first | refine EvF.ret (haw _) ?_ | refine EvRF.ret (haw _) ?_); simp only [aw21, aw21, aw20, List.take_succ_cons, List.take_zero, List.drop_zero, List.drop_succ_cons, List.length_map, ↓awD, awP, Nat.reduceLeDiff, Nat.reduceEqDiff, Nat.reduceAdd, Nat.zero_add, Int.cast_ofNat_Int, Int.reduceLT, Int.reduceLE, Int.reduceEq])
        ((first | refine EvF.ret (hsm _) ?_ | refine EvRF.ret (hsm _) ?_); simp only [aw21, aw21, aw20, List.take_succ_cons, List.take_zero, List.drop_zero, List.drop_succ_cons, List.length_map, ↓awD, awP, Nat.reduceLeDiff, Nat.reduceEqDiff, Nat.reduceAdd, Nat.zero_add, Int.cast_ofNat_Int, Int.reduceLT, Int.reduceLE, Int.reduceEq])
        ((first | refine EvF.ret (hfe _) ?_ | refine EvRF.ret (hfe _) ?_); simp only [hpl, k8, n0, aw21, aw20, List.take_succ_cons, List.take_zero, List.drop_zero, List.drop_succ_cons, List.length_map, ↓awD, awP, Nat.reduceLeDiff, Nat.reduceEqDiff, Nat.reduceAdd, Nat.zero_add, Int.cast_ofNat_Int, Int.reduceLT, Int.reduceLE, Int.reduceEq])
        exact Fin.all (by simp) ⟨rfl, _, rfl⟩
      have hch := fun h => check_ev d hBD hdl v (by omega) h
      simp only [valv_eq] at hch
      cases hcc : decide (checkT d v = 0)
      · simp only [ac6, valv_eq, aw20, List.take_succ_cons, List.take_zero, List.drop_zero, List.drop_succ_cons, List.length_map, ↓awD, awP, Nat.reduceLeDiff, Nat.reduceEqDiff, Nat.reduceAdd, Nat.zero_add, Int.cast_ofNat_Int, Int.reduceLT, Int.reduceLE, Int.reduceEq]
        ((first | refine EvF.ret (haw _) ?_ | refine EvRF.ret (haw _) ?_); simp only [aw21, aw21, aw20, List.take_succ_cons, List.take_zero, List.drop_zero, List.drop_succ_cons, List.length_map, ↓awD, awP, Nat.reduceLeDiff, Nat.reduceEqDiff, Nat.reduceAdd, Nat.zero_add, Int.cast_ofNat_Int, Int.reduceLT, Int.reduceLE, Int.reduceEq])
        ((first | refine EvF.ret (hsm _) ?_ | refine EvRF.ret (hsm _) ?_); simp only [aw21, aw21, aw20, List.take_succ_cons, List.take_zero, List.drop_zero, List.drop_succ_cons, List.length_map, ↓awD, awP, Nat.reduceLeDiff, Nat.reduceEqDiff, Nat.reduceAdd, Nat.zero_add, Int.cast_ofNat_Int, Int.reduceLT, Int.reduceLE, Int.reduceEq])
        ((first | refine EvF.ret (hfe _) ?_ | refine EvRF.ret (hfe _) ?_); simp only [hpl, k8, n0, aw21, aw20, List.take_succ_cons, List.take_zero, List.drop_zero, List.drop_succ_cons, List.length_map, ↓awD, awP, Nat.reduceLeDiff, Nat.reduceEqDiff, Nat.reduceAdd, Nat.zero_add, Int.cast_ofNat_Int, Int.reduceLT, Int.reduceLE, Int.reduceEq])
        ((first | refine EvF.ret (hch _) ?_ | refine EvRF.ret (hch _) ?_); simp only [hcc, aw21, aw20, List.take_succ_cons, List.take_zero, List.drop_zero, List.drop_succ_cons, List.length_map, ↓awD, awP, Nat.reduceLeDiff, Nat.reduceEqDiff, Nat.reduceAdd, Nat.zero_add, Int.cast_ofNat_Int, Int.reduceLT, Int.reduceLE, Int.reduceEq])
        exact Fin.all (by simp) ⟨rfl, _, rfl⟩
      · have hc0 := of_decide_eq_true hcc
        simp only [ac6, valv_eq, aw20, List.take_succ_cons, List.take_zero, List.drop_zero, List.drop_succ_cons, List.length_map, ↓awD, awP, Nat.reduceLeDiff, Nat.reduceEqDiff, Nat.reduceAdd, Nat.zero_add, Int.cast_ofNat_Int, Int.reduceLT, Int.reduceLE, Int.reduceEq]
        ((first | refine EvF.ret (haw _) ?_ | refine EvRF.ret (haw _) ?_); simp only [aw21, aw21, aw20, List.take_succ_cons, List.take_zero, List.drop_zero, List.drop_succ_cons, List.length_map, ↓awD, awP, Nat.reduceLeDiff, Nat.reduceEqDiff, Nat.reduceAdd, Nat.zero_add, Int.cast_ofNat_Int, Int.reduceLT, Int.reduceLE, Int.reduceEq])
        ((first | refine EvF.ret (hsm _) ?_ | refine EvRF.ret (hsm _) ?_); simp only [aw21, aw21, aw20, List.take_succ_cons, List.take_zero, List.drop_zero, List.drop_succ_cons, List.length_map, ↓awD, awP, Nat.reduceLeDiff, Nat.reduceEqDiff, Nat.reduceAdd, Nat.zero_add, Int.cast_ofNat_Int, Int.reduceLT, Int.reduceLE, Int.reduceEq])
        ((first | refine EvF.ret (hfe _) ?_ | refine EvRF.ret (hfe _) ?_); simp only [hpl, k8, n0, aw21, aw20, List.take_succ_cons, List.take_zero, List.drop_zero, List.drop_succ_cons, List.length_map, ↓awD, awP, Nat.reduceLeDiff, Nat.reduceEqDiff, Nat.reduceAdd, Nat.zero_add, Int.cast_ofNat_Int, Int.reduceLT, Int.reduceLE, Int.reduceEq])
        ((first | refine EvF.ret (hch _) ?_ | refine EvRF.ret (hch _) ?_); simp only [hcc, hpl, aw21, aw20, List.take_succ_cons, List.take_zero, List.drop_zero, List.drop_succ_cons, List.length_map, ↓awD, awP, Nat.reduceLeDiff, Nat.reduceEqDiff, Nat.reduceAdd, Nat.zero_add, Int.cast_ofNat_Int, Int.reduceLT, Int.reduceLE, Int.reduceEq])
        refine Need.mk (of_decide_eq_false n0) ?_
        have hnp : 0 < v.names.length := by have := of_decide_eq_false n0; omega
        obtain ⟨i, hin, hi⟩ := imod k v.names.length hnp
        obtain ⟨hnl, hll, hsz⟩ := few_facts hv hff
        have hvl : v.names.length = v.l.length := seq_len hc0 (of_decide_eq_true k8)
        have hi1 : IntKind.i64.wrap ((i : Int) + 1) = ((i + 1 : Nat) : Int) := by rw [wrap_i64] <;> omega
        simp only [hpl, hi, hi1, List.nil_append, aw20, List.take_succ_cons, List.take_zero, List.drop_zero, List.drop_succ_cons, List.length_map, ↓awD, awP, Nat.reduceLeDiff, Nat.reduceEqDiff, Nat.reduceAdd, Nat.zero_add, Int.cast_ofNat_Int, Int.reduceLT, Int.reduceLE, Int.reduceEq]
        generalize hov : AObj.cells [i64 v.kind, i64 v.n, str v.s, strl v.names, vall v.l] = ov at *
        have gov : ∀ (H : List AObj), H[h.length]? = some ov → H[h.length]? = some (AObj.cells [i64 v.kind, i64 v.n, str v.s, strl v.names, vall v.l]) := fun H hh => by rw [hov]; exact hh
        have g0 : (h ++ [ov] ++ [ov])[h.length]? = some (AObj.cells [i64 v.kind, i64 v.n, str v.s, strl v.names, vall v.l]) := gov _ (by simp)
        refine Need.mk ⟨rfl, by decide, by decide, by simp [litParts]⟩ ?_
        simp only [hi1, g0, List.nil_append, aw20, List.take_succ_cons, List.take_zero, List.drop_zero, List.drop_succ_cons, List.length_map, ↓awD, awP, Nat.reduceLeDiff, Nat.reduceEqDiff, Nat.reduceAdd, Nat.zero_add, Int.cast_ofNat_Int, Int.reduceLT, Int.reduceLE, Int.reduceEq]
        refine Need.mk ⟨by omega, by omega, .inl trivial⟩ ?_
        simp only [hi1, g0, Int.toNat_zero, Int.toNat_natCast, ← List.map_take, List.nil_append, aw20, List.take_succ_cons, List.take_zero, List.drop_zero, List.drop_succ_cons, List.length_map, ↓awD, awP, Nat.reduceLeDiff, Nat.reduceEqDiff, Nat.reduceAdd, Nat.zero_add, Int.cast_ofNat_Int, Int.reduceLT, Int.reduceLE, Int.reduceEq]
        have d1 : List.map str (List.take i v.names) = (v.names.take i).map str := rfl
        refine Need.mk ⟨by omega, by omega, Int.le_refl _, .inr fun e he => fit_strs _ e he⟩ ?_
        simp only [hi1, g0, Int.toNat_zero, Int.toNat_natCast, ← List.map_take, ← List.map_drop, List.take_length, List.nil_append, aw20, List.take_succ_cons, List.take_zero, List.drop_zero, List.drop_succ_cons, List.length_map, ↓awD, awP, Nat.reduceLeDiff, Nat.reduceEqDiff, Nat.reduceAdd, Nat.zero_add, Int.cast_ofNat_Int, Int.reduceLT, Int.reduceLE, Int.reduceEq]
        have gP : ∀ J, (h ++ [ov] ++ [ov] ++ J)[h.length]? = some (AObj.cells [i64 v.kind, i64 v.n, str v.s, strl v.names, vall v.l]) := fun J => gov _ (by simp)
        have gQ : ∀ J, (h ++ [ov] ++ [ov] ++ J)[h.length + 1]? = some (AObj.cells [i64 v.kind, i64 v.n, str v.s, strl v.names, vall v.l]) := fun J => by rw [hov]; simp
        refine AppO.useN (z := z1) (P := h ++ [ov] ++ [ov]) (J := []) (lo := h.length + 2) (es := []) (List.append_nil _).symm (by simp) (.inl ⟨rfl, rfl⟩) (by decide) rfl (fun e he => by cases he) (fit_strs _) (one_strs _) rfl (strip_strs _) (by simp only [List.length_map, List.length_nil, List.length_take]; omega) (by simp only [List.length_map, List.length_nil, List.length_take]; omega) fun J1 s1 hs1 hF1 hH1 => ?_
        have o1 := hs1.one
        refine AndF.mk ?_ ?_
        · clear hpl hch haw hsm hfe gv
          simp only [gP, aw20, List.take_succ_cons, List.take_zero, List.drop_zero, List.drop_succ_cons, List.length_map, ↓awD, awP, Nat.reduceLeDiff, Nat.reduceEqDiff, Nat.reduceAdd, Nat.zero_add, Int.cast_ofNat_Int, Int.reduceLT, Int.reduceLE, Int.reduceEq]
          refine Need.mk ⟨rfl, by decide, by decide, by simp [litParts]⟩ ?_
          simp only [gP, hi1, o1, Int.toNat_zero, Int.toNat_natCast, ← List.map_take, ← List.map_drop, List.take_length, aw20, List.take_succ_cons, List.take_zero, List.drop_zero, List.drop_succ_cons, List.length_map, ↓awD, awP, Nat.reduceLeDiff, Nat.reduceEqDiff, Nat.reduceAdd, Nat.zero_add, Int.cast_ofNat_Int, Int.reduceLT, Int.reduceLE, Int.reduceEq]
          refine Need.mk ⟨by omega, by omega, .inl trivial⟩ ?_
          simp only [gP, hi1, o1, Int.toNat_zero, Int.toNat_natCast, ← List.map_take, ← List.map_drop, List.take_length, aw20, List.take_succ_cons, List.take_zero, List.drop_zero, List.drop_succ_cons, List.length_map, ↓awD, awP, Nat.reduceLeDiff, Nat.reduceEqDiff, Nat.reduceAdd, Nat.zero_add, Int.cast_ofNat_Int, Int.reduceLT, Int.reduceLE, Int.reduceEq]
          refine Need.mk ⟨by omega, by omega, Int.le_refl _, .inr fun e he => fit_strs _ e he⟩ ?_
          simp only [gP, hi1, o1, Int.toNat_zero, Int.toNat_natCast, ← List.map_take, ← List.map_drop, List.take_length, aw20, List.take_succ_cons, List.take_zero, List.drop_zero, List.drop_succ_cons, List.length_map, ↓awD, awP, Nat.reduceLeDiff, Nat.reduceEqDiff, Nat.reduceAdd, Nat.zero_add, Int.cast_ofNat_Int, Int.reduceLT, Int.reduceLE, Int.reduceEq]
        simp only [gP, o1, hi1, Int.toNat_zero, Int.toNat_natCast, ← List.map_take, ← List.map_drop, List.take_length, List.nil_append, aw20, List.take_succ_cons, List.take_zero, List.drop_zero, List.drop_succ_cons, List.length_map, ↓awD, awP, Nat.reduceLeDiff, Nat.reduceEqDiff, Nat.reduceAdd, Nat.zero_add, Int.cast_ofNat_Int, Int.reduceLT, Int.reduceLE, Int.reduceEq]
        rw [List.nil_append] at hs1
        refine AppO.useN (z := z1) (P := h ++ [ov] ++ [ov]) (J := J1) (lo := h.length + 2) (es := (v.names.take i).map str) rfl (by simp) hs1 (by decide) rfl (fit_strs _) (fit_strs _) (one_strs _) (strip_strs _) (strip_strs _) (by simp only [List.length_map, List.length_drop, List.length_take]; omega) (by simp only [List.length_map, List.length_drop, List.length_take]; omega) fun J2 s2 hs2 hF2 hH2 => ?_
        have o2 := hs2.one
        refine AndF.mk ?_ ?_
        · clear hpl hch haw hsm hfe gv
          simp only [gP, aw20, List.take_succ_cons, List.take_zero, List.drop_zero, List.drop_succ_cons, List.length_map, ↓awD, awP, Nat.reduceLeDiff, Nat.reduceEqDiff, Nat.reduceAdd, Nat.zero_add, Int.cast_ofNat_Int, Int.reduceLT, Int.reduceLE, Int.reduceEq]
          refine Need.mk ⟨rfl, by decide, by decide, by simp [litParts]⟩ ?_
          simp only [gP, hi1, o1, Int.toNat_zero, Int.toNat_natCast, ← List.map_take, ← List.map_drop, List.take_length, aw20, List.take_succ_cons, List.take_zero, List.drop_zero, List.drop_succ_cons, List.length_map, ↓awD, awP, Nat.reduceLeDiff, Nat.reduceEqDiff, Nat.reduceAdd, Nat.zero_add, Int.cast_ofNat_Int, Int.reduceLT, Int.reduceLE, Int.reduceEq]
          refine Need.mk ⟨by omega, by omega, .inl trivial⟩ ?_
          simp only [gP, hi1, o1, Int.toNat_zero, Int.toNat_natCast, ← List.map_take, ← List.map_drop, List.take_length, aw20, List.take_succ_cons, List.take_zero, List.drop_zero, List.drop_succ_cons, List.length_map, ↓awD, awP, Nat.reduceLeDiff, Nat.reduceEqDiff, Nat.reduceAdd, Nat.zero_add, Int.cast_ofNat_Int, Int.reduceLT, Int.reduceLE, Int.reduceEq]
          refine Need.mk ⟨by omega, by omega, Int.le_refl _, .inr fun e he => fit_strs _ e he⟩ ?_
          simp only [gP, hi1, o1, Int.toNat_zero, Int.toNat_natCast, ← List.map_take, ← List.map_drop, List.take_length, aw20, List.take_succ_cons, List.take_zero, List.drop_zero, List.drop_succ_cons, List.length_map, ↓awD, awP, Nat.reduceLeDiff, Nat.reduceEqDiff, Nat.reduceAdd, Nat.zero_add, Int.cast_ofNat_Int, Int.reduceLT, Int.reduceLE, Int.reduceEq]
        rw [← List.map_append, ← List.eraseIdx_eq_take_drop_succ] at hs2
        simp only [gP, gQ, o1, o2, hi1, List.nil_append, aw20, List.take_succ_cons, List.take_zero, List.drop_zero, List.drop_succ_cons, List.length_map, ↓awD, awP, Nat.reduceLeDiff, Nat.reduceEqDiff, Nat.reduceAdd, Nat.zero_add, Int.cast_ofNat_Int, Int.reduceLT, Int.reduceLE, Int.reduceEq]
        have hset : ∀ (a b x : AObj) (J : List AObj), (h ++ [a] ++ [b] ++ J).set (h.length + 1) x = h ++ [a] ++ [x] ++ J := fun a b x J => by simp [List.set_append]
        rw [hset]
        generalize how : AObj.cells [i64 v.kind, i64 v.n, str v.s, s2, vall v.l] = ow
        have gQ : ∀ J, (h ++ [ov] ++ [ow] ++ J)[h.length + 1]? = some (AObj.cells [i64 v.kind, i64 v.n, str v.s, s2, vall v.l]) := fun J => by rw [how]; simp
        have gP : ∀ J, (h ++ [ov] ++ [ow] ++ J)[h.length]? = some (AObj.cells [i64 v.kind, i64 v.n, str v.s, strl v.names, vall v.l]) := fun J => gov _ (by simp)
        have hs2' : SlotOk (h ++ [ov] ++ [ow] ++ J2) (h.length + 2) z1 ((v.names.eraseIdx i).map str) s2 := hs2.swap (by simp) (by simp)
        have ap0 : Apart s2 (.sl .full []) := fun i a b a' b' _ h2 => by cases h2
        refine Need.mk ⟨rfl, by decide, by decide, by simp [litParts]⟩ ?_
        simp only [gP, gQ, hi1, List.nil_append, aw20, List.take_succ_cons, List.take_zero, List.drop_zero, List.drop_succ_cons, List.length_map, ↓awD, awP, Nat.reduceLeDiff, Nat.reduceEqDiff, Nat.reduceAdd, Nat.zero_add, Int.cast_ofNat_Int, Int.reduceLT, Int.reduceLE, Int.reduceEq]
        refine Need.mk ⟨by omega, by omega, .inl trivial⟩ ?_
        simp only [gP, gQ, hi1, Int.toNat_zero, Int.toNat_natCast, ← List.map_take, List.nil_append, aw20, List.take_succ_cons, List.take_zero, List.drop_zero, List.drop_succ_cons, List.length_map, ↓awD, awP, Nat.reduceLeDiff, Nat.reduceEqDiff, Nat.reduceAdd, Nat.zero_add, Int.cast_ofNat_Int, Int.reduceLT, Int.reduceLE, Int.reduceEq]
        refine Need.mk ⟨by omega, by omega, Int.le_refl _, .inr fun e he => fit_vals _ e he⟩ ?_
        simp only [gP, gQ, hi1, Int.toNat_zero, Int.toNat_natCast, ← List.map_take, ← List.map_drop, List.take_length, List.nil_append, aw20, List.take_succ_cons, List.take_zero, List.drop_zero, List.drop_succ_cons, List.length_map, ↓awD, awP, Nat.reduceLeDiff, Nat.reduceEqDiff, Nat.reduceAdd, Nat.zero_add, Int.cast_ofNat_Int, Int.reduceLT, Int.reduceLE, Int.reduceEq]
        refine AppO.useN (z := z5) (P := h ++ [ov] ++ [ow]) (J := J2) (lo := h.length + 2) (es := []) rfl (by simp) (.inl ⟨rfl, rfl⟩) (by decide) rfl (fun e he => by cases he) (fit_vals _) (one_vals _) rfl (strip_vals _) (by simp only [List.length_map, List.length_nil, List.length_take]; omega) (by simp only [List.length_map, List.length_nil, List.length_take]; omega) fun J3 s3 hs3 hF3 hH3 => ?_
        have o3 := hs3.one
        have hN3 := hs2'.frm hF3 ap0
        have hA3 := hH3.apart ap0 hs2'
        refine AndF.mk ?_ ?_
        · clear hpl hch haw hsm hfe gv
          simp only [gP, aw20, List.take_succ_cons, List.take_zero, List.drop_zero, List.drop_succ_cons, List.length_map, ↓awD, awP, Nat.reduceLeDiff, Nat.reduceEqDiff, Nat.reduceAdd, Nat.zero_add, Int.cast_ofNat_Int, Int.reduceLT, Int.reduceLE, Int.reduceEq]
          refine Need.mk ⟨rfl, by decide, by decide, by simp [litParts]⟩ ?_
          simp only [gP, hi1, o3, Int.toNat_zero, Int.toNat_natCast, ← List.map_take, ← List.map_drop, List.take_length, aw20, List.take_succ_cons, List.take_zero, List.drop_zero, List.drop_succ_cons, List.length_map, ↓awD, awP, Nat.reduceLeDiff, Nat.reduceEqDiff, Nat.reduceAdd, Nat.zero_add, Int.cast_ofNat_Int, Int.reduceLT, Int.reduceLE, Int.reduceEq]
          refine Need.mk ⟨by omega, by omega, .inl trivial⟩ ?_
          simp only [gP, hi1, o3, Int.toNat_zero, Int.toNat_natCast, ← List.map_take, ← List.map_drop, List.take_length, aw20, List.take_succ_cons, List.take_zero, List.drop_zero, List.drop_succ_cons, List.length_map, ↓awD, awP, Nat.reduceLeDiff, Nat.reduceEqDiff, Nat.reduceAdd, Nat.zero_add, Int.cast_ofNat_Int, Int.reduceLT, Int.reduceLE, Int.reduceEq]
          refine Need.mk ⟨by omega, by omega, Int.le_refl _, .inr fun e he => fit_vals _ e he⟩ ?_
          simp only [gP, hi1, o3, Int.toNat_zero, Int.toNat_natCast, ← List.map_take, ← List.map_drop, List.take_length, aw20, List.take_succ_cons, List.take_zero, List.drop_zero, List.drop_succ_cons, List.length_map, ↓awD, awP, Nat.reduceLeDiff, Nat.reduceEqDiff, Nat.reduceAdd, Nat.zero_add, Int.cast_ofNat_Int, Int.reduceLT, Int.reduceLE, Int.reduceEq]
        simp only [gP, o3, hi1, Int.toNat_zero, Int.toNat_natCast, ← List.map_take, ← List.map_drop, List.take_length, List.nil_append, aw20, List.take_succ_cons, List.take_zero, List.drop_zero, List.drop_succ_cons, List.length_map, ↓awD, awP, Nat.reduceLeDiff, Nat.reduceEqDiff, Nat.reduceAdd, Nat.zero_add, Int.cast_ofNat_Int, Int.reduceLT, Int.reduceLE, Int.reduceEq]
        rw [List.nil_append] at hs3
        refine AppO.useN (z := z5) (P := h ++ [ov] ++ [ow]) (J := J3) (lo := h.length + 2) (es := (v.l.take i).map valv) rfl (by simp) hs3 (by decide) rfl (fit_vals _) (fit_vals _) (one_vals _) (strip_vals _) (strip_vals _) (by simp only [List.length_map, List.length_drop, List.length_take]; omega) (by simp only [List.length_map, List.length_drop, List.length_take]; omega) fun J4 s4 hs4 hF4 hH4 => ?_
        have o4 := hs4.one
        have hN4 := hN3.frm hF4 hA3
        refine AndF.mk ?_ ?_
        · clear hpl hch haw hsm hfe gv
          simp only [gP, aw20, List.take_succ_cons, List.take_zero, List.drop_zero, List.drop_succ_cons, List.length_map, ↓awD, awP, Nat.reduceLeDiff, Nat.reduceEqDiff, Nat.reduceAdd, Nat.zero_add, Int.cast_ofNat_Int, Int.reduceLT, Int.reduceLE, Int.reduceEq]
          refine Need.mk ⟨rfl, by decide, by decide, by simp [litParts]⟩ ?_
          simp only [gP, hi1, o3, Int.toNat_zero, Int.toNat_natCast, ← List.map_take, ← List.map_drop, List.take_length, aw20, List.take_succ_cons, List.take_zero, List.drop_zero, List.drop_succ_cons, List.length_map, ↓awD, awP, Nat.reduceLeDiff, Nat.reduceEqDiff, Nat.reduceAdd, Nat.zero_add, Int.cast_ofNat_Int, Int.reduceLT, Int.reduceLE, Int.reduceEq]
          refine Need.mk ⟨by omega, by omega, .inl trivial⟩ ?_
          simp only [gP, hi1, o3, Int.toNat_zero, Int.toNat_natCast, ← List.map_take, ← List.map_drop, List.take_length, aw20, List.take_succ_cons, List.take_zero, List.drop_zero, List.drop_succ_cons, List.length_map, ↓awD, awP, Nat.reduceLeDiff, Nat.reduceEqDiff, Nat.reduceAdd, Nat.zero_add, Int.cast_ofNat_Int, Int.reduceLT, Int.reduceLE, Int.reduceEq]
          refine Need.mk ⟨by omega, by omega, Int.le_refl _, .inr fun e he => fit_vals _ e he⟩ ?_
          simp only [gP, hi1, o3, Int.toNat_zero, Int.toNat_natCast, ← List.map_take, ← List.map_drop, List.take_length, aw20, List.take_succ_cons, List.take_zero, List.drop_zero, List.drop_succ_cons, List.length_map, ↓awD, awP, Nat.reduceLeDiff, Nat.reduceEqDiff, Nat.reduceAdd, Nat.zero_add, Int.cast_ofNat_Int, Int.reduceLT, Int.reduceLE, Int.reduceEq]
        rw [← List.map_append, ← List.eraseIdx_eq_take_drop_succ] at hs4
        simp only [gP, gQ, o3, o4, hi1, List.nil_append, aw20, List.take_succ_cons, List.take_zero, List.drop_zero, List.drop_succ_cons, List.length_map, ↓awD, awP, Nat.reduceLeDiff, Nat.reduceEqDiff, Nat.reduceAdd, Nat.zero_add, Int.cast_ofNat_Int, Int.reduceLT, Int.reduceLE, Int.reduceEq]
        rw [hset]
        generalize how' : AObj.cells [i64 v.kind, i64 v.n, str v.s, s2, s4] = ow'
        have gQ : ∀ J, (h ++ [ov] ++ [ow'] ++ J)[h.length + 1]? = some (AObj.cells [i64 v.kind, i64 v.n, str v.s, s2, s4]) := fun J => by rw [how']; simp
        have gP : ∀ J, (h ++ [ov] ++ [ow'] ++ J)[h.length]? = some (AObj.cells [i64 v.kind, i64 v.n, str v.s, strl v.names, vall v.l]) := fun J => gov _ (by simp)
        have hN : SlotOk (h ++ [ov] ++ [ow'] ++ J4) (h.length + 2) z1 ((v.names.eraseIdx i).map str) s2 := hN4.swap (by simp) (by simp)
        have hL : SlotOk (h ++ [ov] ++ [ow'] ++ J4) (h.length + 2) z5 ((v.l.eraseIdx i).map valv) s4 := hs4.swap (by simp) (by simp)
        have hpos : 0 < d.length := (tab_ok (check_iff.1 hc0).1).2
        obtain ⟨r0, dr, hd0⟩ : ∃ r0 dr, d = r0 :: dr := List.exists_cons_of_length_pos hpos
        have hga : (d.map dscv)[0]? = some (dscv r0) := by rw [hd0]; rfl
        have hr0 : rowAt d 0 = r0 := by rw [hd0]; rfl
        obtain ⟨x, hx⟩ : ∃ x, v.names[i]? = some x := ⟨_, List.getElem?_eq_getElem hin⟩
        have hgx : (v.names.map str)[i]? = some (str x) := by rw [List.getElem?_map, hx]; rfl
        have hlaw := parts_law hc0 (of_decide_eq_true k8) hx
        rw [hr0] at hlaw
        have hr0m : r0 ∈ d := by rw [hd0]; exact List.mem_cons_self
        have hBr := hBD r0 hr0m
        have hpl2 : r0.parts.length < 2 ^ 60 := by have := hBr.2.2.2.2.1; omega
        generalize hG : h ++ [ov] ++ [ow'] = G at *
        have hmust : ∀ j b, (b || (r0.parts.drop j).any fun f => decide (f.name = x) && (!f.opt && decide (f.dfl.length = 0))) = mustN r0 x → True := fun _ _ _ => trivial
        have hv0 := hv
        refine LoopF.list r0.parts hpl2 (γ := Bool × List AObj) (fun j g => ⟨[(0, dscl d), (4, .ref h.length 0), (7, boolv true), (8, i64 i), (9, .ref (h.length + 1) 0), (10, boolv g.1), (11, i64 j)], G ++ J4 ++ g.2⟩) (fun j g => (g.1 || (r0.parts.drop j).any fun f => decide (f.name = x) && (!f.opt && decide (f.dfl.length = 0))) = mustN r0 x) (false, []) (by simp only [List.drop_zero, Bool.false_or, mustN]) (weak_of (by simp) (by simp [look])) ?_ ?_
        · clear hpl hch haw hsm hfe gv
          rintro j f ⟨b, J⟩ hfa hv hj e1 w1
          have hgf := map_get fldv r0.parts j f hfa
          have gH : (G ++ J4 ++ J)[h.length]? = some (AObj.cells [i64 v.kind, i64 v.n, str v.s, strl v.names, vall v.l]) := by rw [List.append_assoc]; exact gP _
          have hHl : h.length < (G ++ J4 ++ J).length := (List.getElem?_eq_some_iff.1 gH).1
          generalize hH : G ++ J4 ++ J = H at *
          have hplH := hpl H
          have gH2 : ∀ o, (H ++ [o])[h.length]? = some (AObj.cells [i64 v.kind, i64 v.n, str v.s, strl v.names, vall v.l]) := fun o => by rw [List.getElem?_append_left hHl]; exact gH
          rw [drop_get hfa, List.any_cons] at hv
          simp only [e1, aw20, List.take_succ_cons, List.take_zero, List.drop_zero, List.drop_succ_cons, List.length_map, ↓awD, awP, Nat.reduceLeDiff, Nat.reduceEqDiff, Nat.reduceAdd, Nat.zero_add, Int.cast_ofNat_Int, Int.reduceLT, Int.reduceLE, Int.reduceEq]
          ((first | refine Need.mk (by first | (first | omega | (simp only [decide_eq_true_eq, decide_eq_false_iff_not, Bool.and_eq_true, Bool.not_eq_true', Bool.not_eq_false', List.length_map] at *; omega) | (simp; omega)) | (constructor <;> (first | omega | (simp only [decide_eq_true_eq, decide_eq_false_iff_not, Bool.and_eq_true, Bool.not_eq_true', Bool.not_eq_false', List.length_map] at *; omega) | (simp; omega)))) (Elem.recs hga (by first | (rw [dscv_eq]; exact ⟨rfl, rfl⟩) | exact ⟨rfl, rfl⟩) ?_) | refine Elem.recs hga (by first | (rw [dscv_eq]; exact ⟨rfl, rfl⟩) | exact ⟨rfl, rfl⟩) ?_); simp only [dscv_eq, e1, aw21, aw20, List.take_succ_cons, List.take_zero, List.drop_zero, List.drop_succ_cons, List.length_map, ↓awD, awP, Nat.reduceLeDiff, Nat.reduceEqDiff, Nat.reduceAdd, Nat.zero_add, Int.cast_ofNat_Int, Int.reduceLT, Int.reduceLE, Int.reduceEq])
          ((first | refine Need.mk (by first | (first | omega | (simp only [decide_eq_true_eq, decide_eq_false_iff_not, Bool.and_eq_true, Bool.not_eq_true', Bool.not_eq_false', List.length_map] at *; omega) | (simp; omega)) | (constructor <;> (first | omega | (simp only [decide_eq_true_eq, decide_eq_false_iff_not, Bool.and_eq_true, Bool.not_eq_true', Bool.not_eq_false', List.length_map] at *; omega) | (simp; omega)))) (Elem.recs hga (by first | (rw [dscv_eq]; exact ⟨rfl, rfl⟩) | exact ⟨rfl, rfl⟩) ?_) | refine Elem.recs hga (by first | (rw [dscv_eq]; exact ⟨rfl, rfl⟩) | exact ⟨rfl, rfl⟩) ?_); simp only [dscv_eq, e1, aw21, aw20, List.take_succ_cons, List.take_zero, List.drop_zero, List.drop_succ_cons, List.length_map, ↓awD, awP, Nat.reduceLeDiff, Nat.reduceEqDiff, Nat.reduceAdd, Nat.zero_add, Int.cast_ofNat_Int, Int.reduceLT, Int.reduceLE, Int.reduceEq])
          ((first | refine Need.mk (by first | (first | omega | (simp only [decide_eq_true_eq, decide_eq_false_iff_not, Bool.and_eq_true, Bool.not_eq_true', Bool.not_eq_false', List.length_map] at *; omega) | (simp; omega)) | (constructor <;> (first | omega | (simp only [decide_eq_true_eq, decide_eq_false_iff_not, Bool.and_eq_true, Bool.not_eq_true', Bool.not_eq_false', List.length_map] at *; omega) | (simp; omega)))) (Elem.recs hgf (by first | (rw [fldv_eq]; exact ⟨rfl, rfl⟩) | exact ⟨rfl, rfl⟩) ?_) | refine Elem.recs hgf (by first | (rw [fldv_eq]; exact ⟨rfl, rfl⟩) | exact ⟨rfl, rfl⟩) ?_); simp only [fldv_eq, e1, hplH, gH2, aw21, aw20, List.take_succ_cons, List.take_zero, List.drop_zero, List.drop_succ_cons, List.length_map, ↓awD, awP, Nat.reduceLeDiff, Nat.reduceEqDiff, Nat.reduceAdd, Nat.zero_add, Int.cast_ofNat_Int, Int.reduceLT, Int.reduceLE, Int.reduceEq])
          have d0 : decide ((f.dfl.length : Int) = 0) = decide (f.dfl.length = 0) := by rw [decide_eq_decide]; omega
          cases b
          · simp only [gH2, hplH, hj, d0, aw20, List.take_succ_cons, List.take_zero, List.drop_zero, List.drop_succ_cons, List.length_map, ↓awD, awP, Nat.reduceLeDiff, Nat.reduceEqDiff, Nat.reduceAdd, Nat.zero_add, Int.cast_ofNat_Int, Int.reduceLT, Int.reduceLE, Int.reduceEq]
            refine Need.mk ⟨by omega, by omega⟩ (Elem.recs hgx ⟨rfl, rfl⟩ ?_)
            simp only [gH2, hplH, hj, d0, w1, aw20, List.take_succ_cons, List.take_zero, List.drop_zero, List.drop_succ_cons, List.length_map, ↓awD, awP, Nat.reduceLeDiff, Nat.reduceEqDiff, Nat.reduceAdd, Nat.zero_add, Int.cast_ofNat_Int, Int.reduceLT, Int.reduceLE, Int.reduceEq]
            cases hnx : decide (f.name = x)
            · simp only [w1, aw20, List.take_succ_cons, List.take_zero, List.drop_zero, List.drop_succ_cons, List.length_map, ↓awD, awP, Nat.reduceLeDiff, Nat.reduceEqDiff, Nat.reduceAdd, Nat.zero_add, Int.cast_ofNat_Int, Int.reduceLT, Int.reduceLE, Int.reduceEq]
              exact ⟨(j + 1, (false, J ++ [_])), ⟨hj, by simpa [hnx] using hv⟩, by simp only; omega, weak_of (by rw [← List.append_assoc, hH]) (by simp [look])⟩
            cases hop : f.opt
            rotate_left
            · simp only [hop, gH2, hplH, w1, aw20, List.take_succ_cons, List.take_zero, List.drop_zero, List.drop_succ_cons, List.length_map, ↓awD, awP, Nat.reduceLeDiff, Nat.reduceEqDiff, Nat.reduceAdd, Nat.zero_add, Int.cast_ofNat_Int, Int.reduceLT, Int.reduceLE, Int.reduceEq]
              exact ⟨(j + 1, (false, J ++ [_])), ⟨hj, by simpa [hop] using hv⟩, by simp only; omega, weak_of (by rw [← List.append_assoc, hH]) (by simp [look])⟩
            · simp only [hop, gH2, hplH, d0, w1, aw20, List.take_succ_cons, List.take_zero, List.drop_zero, List.drop_succ_cons, List.length_map, ↓awD, awP, Nat.reduceLeDiff, Nat.reduceEqDiff, Nat.reduceAdd, Nat.zero_add, Int.cast_ofNat_Int, Int.reduceLT, Int.reduceLE, Int.reduceEq]
              exact ⟨(j + 1, (decide (f.dfl.length = 0), J ++ [_])), ⟨hj, by simpa [hnx, hop] using hv⟩, by simp only; omega, weak_of (by rw [← List.append_assoc, hH]) (by simp [look])⟩
          · simp only [w1, aw20, List.take_succ_cons, List.take_zero, List.drop_zero, List.drop_succ_cons, List.length_map, ↓awD, awP, Nat.reduceLeDiff, Nat.reduceEqDiff, Nat.reduceAdd, Nat.zero_add, Int.cast_ofNat_Int, Int.reduceLT, Int.reduceLE, Int.reduceEq]
            exact ⟨(j + 1, (true, J ++ [_])), ⟨hj, by simpa using hv⟩, by simp only; omega, weak_of (by rw [← List.append_assoc, hH]) (by simp [look])⟩
        · rintro ⟨b, J⟩ hv e1
          rw [drop_len, List.any_nil, Bool.or_false] at hv
          simp only at hv
          subst hv
          simp only [e1, aw20, List.take_succ_cons, List.take_zero, List.drop_zero, List.drop_succ_cons, List.length_map, ↓awD, awP, Nat.reduceLeDiff, Nat.reduceEqDiff, Nat.reduceAdd, Nat.zero_add, Int.cast_ofNat_Int, Int.reduceLT, Int.reduceLE, Int.reduceEq]
          ((first | refine Need.mk (by first | (first | omega | (simp only [decide_eq_true_eq, decide_eq_false_iff_not, Bool.and_eq_true, Bool.not_eq_true', Bool.not_eq_false', List.length_map] at *; omega) | (simp; omega)) | (constructor <;> (first | omega | (simp only [decide_eq_true_eq, decide_eq_false_iff_not, Bool.and_eq_true, Bool.not_eq_true', Bool.not_eq_false', List.length_map] at *; omega) | (simp; omega)))) (Elem.recs hga (by first | (rw [dscv_eq]; exact ⟨rfl, rfl⟩) | exact ⟨rfl, rfl⟩) ?_) | refine Elem.recs hga (by first | (rw [dscv_eq]; exact ⟨rfl, rfl⟩) | exact ⟨rfl, rfl⟩) ?_); simp only [dscv_eq, e1, aw21, aw20, List.take_succ_cons, List.take_zero, List.drop_zero, List.drop_succ_cons, List.length_map, ↓awD, awP, Nat.reduceLeDiff, Nat.reduceEqDiff, Nat.reduceAdd, Nat.zero_add, Int.cast_ofNat_Int, Int.reduceLT, Int.reduceLE, Int.reduceEq])
          have gW : (G ++ J4 ++ J)[h.length + 1]? = some (AObj.cells [i64 v.kind, i64 v.n, str v.s, s2, s4]) := by rw [List.append_assoc]; exact gQ _
          simp only [gW, o2, o4, aw20, List.take_succ_cons, List.take_zero, List.drop_zero, List.drop_succ_cons, List.length_map, ↓awD, awP, Nat.reduceLeDiff, Nat.reduceEqDiff, Nat.reduceAdd, Nat.zero_add, Int.cast_ofNat_Int, Int.reduceLT, Int.reduceLE, Int.reduceEq]
          obtain ⟨n', hn1, hn2, hn3⟩ := slot_lent (hN.app J) (fit_strs _) (one_strs _) (by rw [flat_strs]; exact und_strs 0 _) (low_strs _)
          obtain ⟨l', hl1, hl2, hl3⟩ := slot_lent (hL.app J) (fit_vals _) (one_vals _) (unders_of fun y hy => by
            simp only [flatC, List.mem_flatMap, List.mem_map] at hy
            obtain ⟨_, ⟨c, _, rfl⟩, hy⟩ := hy
            have hu := und_val 0 c
            rw [valv_eq] at hy hu
            simp only [AV.under] at hu
            obtain ⟨i, hi⟩ := List.getElem?_of_mem hy
            exact unders_get hu hi) (low_vall _)
          have hck := fun h => check_ev d hBD hdl (v.setNL (v.names.eraseIdx i) (v.l.eraseIdx i)) (mx_setNL hv0 i) h
          rw [hlaw] at hck
          have hck2 : ∀ h, EvR E0 15 [dscl d, .agg [i64 v.kind, i64 v.n, str v.s, n', l']] h (i64 (bif mustN r0 x then 4 else 0)) := fun h => (hck h).high (by
            rw [valv_eq]
            simp only [lows, AV.low, low_dscl, hn2, hl2]
            rfl)
          have cC : EvR E0 15 [dscl d, .agg [i64 v.kind, i64 v.n, str v.s, s2, s4]] (G ++ J4 ++ J) (i64 (bif mustN r0 x then 4 else 0)) :=
            EvR.lend3 (args' := [dscl d, .agg [i64 v.kind, i64 v.n, str v.s, n', l']]) Tryz.func15 (by rfl) rfl (hck2 []) rfl fun i a a' ha ha' => by
              match i, ha, ha' with
              | 0, ha, ha' => cases ha; cases ha'; exact ⟨.one (.same (by simp only [AV.under]; exact und_dscs 0 d)), fun k es => by simp⟩
              | 1, ha, ha' =>
                cases ha; cases ha'
                refine ⟨.agg rfl fun i a b ha hb => ?_, fun k es => by simp⟩
                match i, ha, hb with
                | 0, ha, hb => cases ha; cases hb; exact .one (.same rfl)
                | 1, ha, hb => cases ha; cases hb; exact .one (.same rfl)
                | 2, ha, hb => cases ha; cases hb; exact .one (.same rfl)
                | 3, ha, hb => cases ha; cases hb; exact .one hn1
                | 4, ha, hb => cases ha; cases hb; exact .one hl1
          refine EvF.ret cC ?_
          have hGe : G = h ++ [ov, ow'] := by rw [← hG]; simp
          cases hm : mustN r0 x
          · simp only [hm, cond_false, aw20, List.take_succ_cons, List.take_zero, List.drop_zero, List.drop_succ_cons, List.length_map, ↓awD, awP, Nat.reduceLeDiff, Nat.reduceEqDiff, Nat.reduceAdd, Nat.zero_add, Int.cast_ofNat_Int, Int.reduceLT, Int.reduceLE, Int.reduceEq]
            exact Fin.all (by simp only [hGe, List.length_append]; omega) ⟨rfl, [ov, ow'] ++ J4 ++ J, by rw [hGe]; simp⟩
          · simp only [hm, cond_true, aw20, List.take_succ_cons, List.take_zero, List.drop_zero, List.drop_succ_cons, List.length_map, ↓awD, awP, Nat.reduceLeDiff, Nat.reduceEqDiff, Nat.reduceAdd, Nat.zero_add, Int.cast_ofNat_Int, Int.reduceLT, Int.reduceLE, Int.reduceEq]
            exact Fin.all (by simp only [hGe, List.length_append]; omega) ⟨rfl, [ov, ow'] ++ J4 ++ J, by rw [hGe]; simp⟩
end Go.Abs.Fr
