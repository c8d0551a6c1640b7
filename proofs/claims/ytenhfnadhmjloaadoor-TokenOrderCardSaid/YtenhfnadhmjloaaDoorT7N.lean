/- TokenWhole: the law's function answers true. -/
import Derived.Test.YtenhfnadhmjloaaDoorT7M
set_option linter.all false
namespace Go.Abs.T7
open Go Go.Abs Go.Proofs
set_option linter.unusedSimpArgs false

/-- Is a scan's outcome one word that is all of the text? -/
def isw (b : List UInt8) : Bool :=
  decide ((scan b).2.2 = 0) && decide ((scan b).1.length = 1) && ((scan b).1.head?.map fun t => decide (t.kind = 1) && decide (t.text = b)).getD false

theorem let_not_blank (c : UInt8) : isLet c = true → blank c = false ∧ isC 45 c = false := by
  have := all_u8 (p := fun c => !isLet c || (!blank c && !isC 45 c)) (by decide +kernel) c
  intro h
  simpa [h] using this

theorem hasP_two {b : List UInt8} {n : Nat} (h : hasP (b.drop n) [45, 45] = true) : isC 45 (pk b n) = true := by
  simp only [hasP, Bool.and_eq_true, decide_eq_true_eq] at h
  obtain ⟨h1, h2⟩ := h
  have : (b.drop n)[0]? = some 45 := by
    have h3 : ((b.drop n).take 2)[0]? = some 45 := by rw [show (2 : Nat) = ([45, 45] : List UInt8).length from rfl, h2]; rfl
    rwa [List.getElem?_take_of_lt (by decide)] at h3
  rw [List.getElem?_drop, Nat.add_zero] at this
  rw [pk_get this]; rfl

theorem sk_letter {b : List UInt8} {f n : Nat} (h : isLet (pk b n) = true) : sk b f n = n := by
  cases f with
  | zero => rfl
  | succ f =>
    obtain ⟨h1, h2⟩ := let_not_blank _ h
    unfold sk
    split
    · rfl
    · rw [if_neg (by rw [h1]; simp), if_neg]
      intro hp
      rw [hasP_two hp] at h2; cases h2

theorem scn_out {b : List UInt8} : ∀ (f n : Nat) (out : List Tok), (scn b f n out).2.2 = 0 → out <+: (scn b f n out).1
  | 0, n, out, _ => List.prefix_refl _
  | f + 1, n, out, h => by
    unfold scn at h ⊢
    split at h
    · rename_i hn; rw [if_pos hn]; exact List.prefix_refl _
    · rename_i hn
      rw [if_neg hn]
      split at h
      · rename_i hok
        rw [if_pos hok]
        exact (List.prefix_append _ _).trans (scn_out f _ _ h)
      · cases h

theorem isw_whl (b : List UInt8) (hb : b.length ≤ 65536) : isw b = whl b := by
  have hlen : ¬ 65536 < b.length := by omega
  by_cases hw : whl b = true
  · have hl : isLet (pk b 0) = true := by
      unfold whl at hw; simp only [Bool.and_eq_true] at hw; exact hw.1.1
    have hpos : 0 < b.length := by
      rcases Nat.eq_zero_or_pos b.length with h | h
      · rw [pk_none (by omega)] at hl; exact absurd hl (by decide)
      · exact h
    have hwl2 : (wl (fun k => pk b (0 + k)) (b.length + 1) 1).2 = true ∧ (wl (fun k => pk b (0 + k)) (b.length + 1) 1).1 = b.length := by
      have e : (fun k => pk b (0 + k)) = (fun k => pk b k) := by funext k; rw [Nat.zero_add]
      rw [e]
      unfold whl at hw
      simp only [Bool.and_eq_true, decide_eq_true_eq] at hw
      exact ⟨hw.1.2, hw.2⟩
    have hnx : nx b 0 = (⟨1, b, 0, 0⟩, b.length, true) := by
      unfold nx
      rw [if_pos hl, if_pos hwl2.1, hwl2.2]
      simp
    have hsc : scan b = ([⟨1, b, 0, 0⟩], b.length, 0) := by
      unfold scan
      rw [if_neg hlen, sk_letter hl]
      obtain ⟨m, hm⟩ : ∃ m, b.length = m + 1 := ⟨b.length - 1, by omega⟩
      have hs : sk b b.length b.length = b.length := by rw [hm]; unfold sk; rw [if_pos (by omega)]
      rw [show b.length + 1 = (m + 1) + 1 by omega]
      unfold scn
      rw [if_neg (by omega), hnx]
      simp only [if_true]
      rw [hs]
      unfold scn
      rw [if_pos (Nat.le_refl _)]
      rfl
    rw [hw]
    unfold isw
    rw [hsc]
    simp
  · have hw' : whl b = false := by simpa using hw
    rw [hw']
    unfold isw
    rw [Bool.eq_false_iff]
    intro h
    simp only [Bool.and_eq_true, decide_eq_true_eq] at h
    obtain ⟨⟨h1, h2⟩, h3⟩ := h
    unfold scan at h1 h2 h3
    rw [if_neg hlen] at h1 h2 h3
    generalize ha : sk b b.length 0 = a at h1 h2 h3
    unfold scn at h1 h2 h3
    split at h1
    · rename_i hn
      rw [if_pos hn] at h2
      cases h2
    · rename_i hn
      rw [if_neg hn] at h2 h3
      split at h1
      · rename_i hok
        rw [if_pos hok] at h2 h3
        obtain ⟨rest, hrest⟩ := scn_out _ _ _ h1
        rw [← hrest] at h2 h3
        simp at h2
        subst h2
        simp only [List.nil_append, List.append_nil, List.head?_cons, Option.map_some, Option.getD_some, Bool.and_eq_true, decide_eq_true_eq] at h3
        obtain ⟨hk, ht⟩ := h3
        apply hw
        -- the token is a word, and all of the text
        unfold nx at hok hk ht
        split at hok
        · rename_i hl
          rw [if_pos hl] at hk ht
          split at hok
          · rename_i hw2
            rw [if_pos hw2] at ht
            simp only at ht
            have hlen2 := congrArg List.length ht
            simp only [List.length_take, List.length_drop] at hlen2
            have ha0 : a = 0 := by omega
            subst ha0
            have e : (fun k => pk b (0 + k)) = (fun k => pk b k) := by funext k; rw [Nat.zero_add]
            have hle := wl_le (b := b) (at_ := 0) (b.length + 1) 1 (by omega)
            rw [e] at hw2 hlen2 hle
            unfold whl
            rw [hl, hw2]
            simp
            omega
          · cases hok
        · rename_i hl
          rw [if_neg hl] at hk
          split at hk
          · cases hk
          · split at hk
            · cases hk
            · split at hk <;> cases hk
      · cases h1

theorem ba_eq2 (l : List UInt8) (s : ByteArray) : decide ((⟨l.toArray⟩ : ByteArray) = s) = decide (l = s.data.toList) := by
  rw [decide_eq_decide]
  constructor
  · rintro rfl; rfl
  · rintro rfl; rfl

set_option maxHeartbeats 4000000 in
theorem wholelaw_ev (s : ByteArray) (h : List AObj) : EvR E0 6 [.lit (.string s)] h (boolv true) := by
  refine ev_of (fn := Tryd.f6) (hs := []) Tryd.func6 c6 (by simp) fun hcl => ?_
  simp only [ac6, ne_eq, not_false_eq_true, Option.map_some, Option.map_none, List.map_cons, List.map_nil, Bool.not_true, Bool.not_false, decide_true, decide_false, List.getElem?_cons_zero, List.getElem?_cons_succ, ↓aw1, ↓aw2, ↓aw17, aw3, aw4, aw5, aw6, aw7, aw8, aw9, aw10, aw11, aw12, aw13, aw14, aw15, aw16, Nat.reduceLeDiff, if_true, if_false, Nat.reduceEqDiff, Nat.reduceAdd, beq_self_eq_true, beq_true, beq_false, Bool.false_eq_true]
  refine EvF.ret (awake_ev h) ?_
  simp only [ne_eq, not_false_eq_true, Option.map_some, Option.map_none, List.map_cons, List.map_nil, Bool.not_true, Bool.not_false, decide_true, decide_false, List.getElem?_cons_zero, List.getElem?_cons_succ, ↓aw1, ↓aw2, ↓aw17, aw3, aw4, aw5, aw6, aw7, aw8, aw9, aw10, aw11, aw12, aw13, aw14, aw15, aw16, Nat.reduceLeDiff, if_true, if_false, Nat.reduceEqDiff, Nat.reduceAdd, beq_self_eq_true, beq_true, beq_false, Bool.false_eq_true]
  by_cases hs : 1000 < s.size
  · have e0 : decide ((1000 : Int) < (s.size : Int)) = true := by simp; omega
    simp only [e0, ne_eq, not_false_eq_true, Option.map_some, Option.map_none, List.map_cons, List.map_nil, Bool.not_true, Bool.not_false, decide_true, decide_false, List.getElem?_cons_zero, List.getElem?_cons_succ, ↓aw1, ↓aw2, ↓aw17, aw3, aw4, aw5, aw6, aw7, aw8, aw9, aw10, aw11, aw12, aw13, aw14, aw15, aw16, Nat.reduceLeDiff, if_true, if_false, Nat.reduceEqDiff, Nat.reduceAdd, beq_self_eq_true, beq_true, beq_false, Bool.false_eq_true]
    exact Fin.same0 hcl rfl ⟨rfl, rfl⟩
  have e0 : decide ((1000 : Int) < (s.size : Int)) = false := by simp; omega
  have hlen : s.data.toList.length = s.size := by simp
  have hI := isw_whl s.data.toList (by omega)
  simp only [e0, ne_eq, not_false_eq_true, Option.map_some, Option.map_none, List.map_cons, List.map_nil, Bool.not_true, Bool.not_false, decide_true, decide_false, List.getElem?_cons_zero, List.getElem?_cons_succ, ↓aw1, ↓aw2, ↓aw17, aw3, aw4, aw5, aw6, aw7, aw8, aw9, aw10, aw11, aw12, aw13, aw14, aw15, aw16, Nat.reduceLeDiff, if_true, if_false, Nat.reduceEqDiff, Nat.reduceAdd, beq_self_eq_true, beq_true, beq_false, Bool.false_eq_true]
  refine Need.mk (by omega) ?_
  simp only [ne_eq, not_false_eq_true, Option.map_some, Option.map_none, List.map_cons, List.map_nil, Bool.not_true, Bool.not_false, decide_true, decide_false, List.getElem?_cons_zero, List.getElem?_cons_succ, ↓aw1, ↓aw2, ↓aw17, aw3, aw4, aw5, aw6, aw7, aw8, aw9, aw10, aw11, aw12, aw13, aw14, aw15, aw16, Nat.reduceLeDiff, if_true, if_false, Nat.reduceEqDiff, Nat.reduceAdd, beq_self_eq_true, beq_true, beq_false, Bool.false_eq_true]
  refine EvF.use (scan_ev s.data.toList (by omega)) ?_
  rintro r h' ⟨⟨c, hc, rfl⟩, rfl⟩
  generalize hS : scan s.data.toList = S
  obtain ⟨toks, n, e⟩ := S
  unfold isw at hI
  rw [hS] at hI
  simp only at hI
  have hstrip : AV.strip (.sl c (toks.map tokv)) = .sl c (toks.map tokv) := by rcases hc with rfl | rfl <;> rfl
  have up := fun h => upper_ev s h (by omega)
  have lo := fun h => lower_ev s h (by omega)
  by_cases he : e = 0
  · subst he
    have z0 : decide (((0 : Nat) : Int) = 0) = true := rfl
    by_cases hl : toks.length = 1
    · obtain ⟨t, rfl⟩ := List.length_eq_one_iff.1 hl
      simp only [List.map_cons, List.map_nil, tokv] at hstrip
      have z1 : decide (((1 : Nat) : Int) = 1) = true := rfl
      simp only [List.map_cons, List.map_nil, tokv, hstrip, z0, z1, Nat.zero_add, ne_eq, not_false_eq_true, Option.map_some, Option.map_none, List.map_cons, List.map_nil, Bool.not_true, Bool.not_false, decide_true, decide_false, List.getElem?_cons_zero, List.getElem?_cons_succ, ↓aw1, ↓aw2, ↓aw17, aw3, aw4, aw5, aw6, aw7, aw8, aw9, aw10, aw11, aw12, aw13, aw14, aw15, aw16, Nat.reduceLeDiff, if_true, if_false, Nat.reduceEqDiff, Nat.reduceAdd, beq_self_eq_true, beq_true, beq_false, Bool.false_eq_true]
      refine Need.mk ⟨by decide, by decide⟩ fun e he => ?_
      have he := Option.some.inj (show some _ = some e from he)
      subst he
      simp only [List.drop_zero, List.drop_succ_cons, ne_eq, not_false_eq_true, Option.map_some, Option.map_none, List.map_cons, List.map_nil, Bool.not_true, Bool.not_false, decide_true, decide_false, List.getElem?_cons_zero, List.getElem?_cons_succ, ↓aw1, ↓aw2, ↓aw17, aw3, aw4, aw5, aw6, aw7, aw8, aw9, aw10, aw11, aw12, aw13, aw14, aw15, aw16, Nat.reduceLeDiff, if_true, if_false, Nat.reduceEqDiff, Nat.reduceAdd, beq_self_eq_true, beq_true, beq_false, Bool.false_eq_true]
      obtain ⟨k1, hk, hk'⟩ : ∃ v : Bool, decide (t.kind = 1) = v ∧ decide ((t.kind : Int) = 1) = v := ⟨_, rfl, by rw [decide_eq_decide]; omega⟩
      cases k1
      · have hv : whl s.data.toList = false := by rw [← hI]; simp [hk]
        simp only [hk', ne_eq, not_false_eq_true, Option.map_some, Option.map_none, List.map_cons, List.map_nil, Bool.not_true, Bool.not_false, decide_true, decide_false, List.getElem?_cons_zero, List.getElem?_cons_succ, ↓aw1, ↓aw2, ↓aw17, aw3, aw4, aw5, aw6, aw7, aw8, aw9, aw10, aw11, aw12, aw13, aw14, aw15, aw16, Nat.reduceLeDiff, if_true, if_false, Nat.reduceEqDiff, Nat.reduceAdd, beq_self_eq_true, beq_true, beq_false, Bool.false_eq_true]
        cases hlt : lt97 (pk s.data.toList 0)
        all_goals
          try simp only [ne_eq, not_false_eq_true, Option.map_some, Option.map_none, List.map_cons, List.map_nil, Bool.not_true, Bool.not_false, decide_true, decide_false, List.getElem?_cons_zero, List.getElem?_cons_succ, ↓aw1, ↓aw2, ↓aw17, aw3, aw4, aw5, aw6, aw7, aw8, aw9, aw10, aw11, aw12, aw13, aw14, aw15, aw16, Nat.reduceLeDiff, if_true, if_false, Nat.reduceEqDiff, Nat.reduceAdd, beq_self_eq_true, beq_true, beq_false, Bool.false_eq_true]
          refine EvF.ret (up _) ?_
          simp only [hv, hlt, decide_true, decide_false, eq_self, ne_eq, not_false_eq_true, Option.map_some, Option.map_none, List.map_cons, List.map_nil, Bool.not_true, Bool.not_false, decide_true, decide_false, List.getElem?_cons_zero, List.getElem?_cons_succ, ↓aw1, ↓aw2, ↓aw17, aw3, aw4, aw5, aw6, aw7, aw8, aw9, aw10, aw11, aw12, aw13, aw14, aw15, aw16, Nat.reduceLeDiff, if_true, if_false, Nat.reduceEqDiff, Nat.reduceAdd, beq_self_eq_true, beq_true, beq_false, Bool.false_eq_true]
          repeat (first | (refine EvF.ret (lo _) ?_; simp only [hv, hlt, decide_true, eq_self, ne_eq, not_false_eq_true, Option.map_some, Option.map_none, List.map_cons, List.map_nil, Bool.not_true, Bool.not_false, decide_true, decide_false, List.getElem?_cons_zero, List.getElem?_cons_succ, ↓aw1, ↓aw2, ↓aw17, aw3, aw4, aw5, aw6, aw7, aw8, aw9, aw10, aw11, aw12, aw13, aw14, aw15, aw16, Nat.reduceLeDiff, if_true, if_false, Nat.reduceEqDiff, Nat.reduceAdd, beq_self_eq_true, beq_true, beq_false, Bool.false_eq_true]) | (refine EvF.ret (up _) ?_; simp only [hv, hlt, decide_true, eq_self, ne_eq, not_false_eq_true, Option.map_some, Option.map_none, List.map_cons, List.map_nil, Bool.not_true, Bool.not_false, decide_true, decide_false, List.getElem?_cons_zero, List.getElem?_cons_succ, ↓aw1, ↓aw2, ↓aw17, aw3, aw4, aw5, aw6, aw7, aw8, aw9, aw10, aw11, aw12, aw13, aw14, aw15, aw16, Nat.reduceLeDiff, if_true, if_false, Nat.reduceEqDiff, Nat.reduceAdd, beq_self_eq_true, beq_true, beq_false, Bool.false_eq_true]))
          exact Fin.same0 hcl rfl ⟨rfl, rfl⟩
      · simp only [hk', hstrip, ne_eq, not_false_eq_true, Option.map_some, Option.map_none, List.map_cons, List.map_nil, Bool.not_true, Bool.not_false, decide_true, decide_false, List.getElem?_cons_zero, List.getElem?_cons_succ, ↓aw1, ↓aw2, ↓aw17, aw3, aw4, aw5, aw6, aw7, aw8, aw9, aw10, aw11, aw12, aw13, aw14, aw15, aw16, Nat.reduceLeDiff, if_true, if_false, Nat.reduceEqDiff, Nat.reduceAdd, beq_self_eq_true, beq_true, beq_false, Bool.false_eq_true]
        refine Need.mk ⟨by decide, by decide⟩ fun e he => ?_
        have he := Option.some.inj (show some _ = some e from he)
        subst he
        simp only [List.drop_zero, List.drop_succ_cons, ba_eq2, ne_eq, not_false_eq_true, Option.map_some, Option.map_none, List.map_cons, List.map_nil, Bool.not_true, Bool.not_false, decide_true, decide_false, List.getElem?_cons_zero, List.getElem?_cons_succ, ↓aw1, ↓aw2, ↓aw17, aw3, aw4, aw5, aw6, aw7, aw8, aw9, aw10, aw11, aw12, aw13, aw14, aw15, aw16, Nat.reduceLeDiff, if_true, if_false, Nat.reduceEqDiff, Nat.reduceAdd, beq_self_eq_true, beq_true, beq_false, Bool.false_eq_true]
        cases ht : decide (t.text = s.data.toList)
        · have hv : whl s.data.toList = false := by rw [← hI]; simp [hk, ht]
          cases hlt : lt97 (pk s.data.toList 0)
          all_goals
            try simp only [ne_eq, not_false_eq_true, Option.map_some, Option.map_none, List.map_cons, List.map_nil, Bool.not_true, Bool.not_false, decide_true, decide_false, List.getElem?_cons_zero, List.getElem?_cons_succ, ↓aw1, ↓aw2, ↓aw17, aw3, aw4, aw5, aw6, aw7, aw8, aw9, aw10, aw11, aw12, aw13, aw14, aw15, aw16, Nat.reduceLeDiff, if_true, if_false, Nat.reduceEqDiff, Nat.reduceAdd, beq_self_eq_true, beq_true, beq_false, Bool.false_eq_true]
            refine EvF.ret (up _) ?_
            simp only [hv, hlt, decide_true, decide_false, eq_self, ne_eq, not_false_eq_true, Option.map_some, Option.map_none, List.map_cons, List.map_nil, Bool.not_true, Bool.not_false, decide_true, decide_false, List.getElem?_cons_zero, List.getElem?_cons_succ, ↓aw1, ↓aw2, ↓aw17, aw3, aw4, aw5, aw6, aw7, aw8, aw9, aw10, aw11, aw12, aw13, aw14, aw15, aw16, Nat.reduceLeDiff, if_true, if_false, Nat.reduceEqDiff, Nat.reduceAdd, beq_self_eq_true, beq_true, beq_false, Bool.false_eq_true]
            repeat (first | (refine EvF.ret (lo _) ?_; simp only [hv, hlt, decide_true, eq_self, ne_eq, not_false_eq_true, Option.map_some, Option.map_none, List.map_cons, List.map_nil, Bool.not_true, Bool.not_false, decide_true, decide_false, List.getElem?_cons_zero, List.getElem?_cons_succ, ↓aw1, ↓aw2, ↓aw17, aw3, aw4, aw5, aw6, aw7, aw8, aw9, aw10, aw11, aw12, aw13, aw14, aw15, aw16, Nat.reduceLeDiff, if_true, if_false, Nat.reduceEqDiff, Nat.reduceAdd, beq_self_eq_true, beq_true, beq_false, Bool.false_eq_true]) | (refine EvF.ret (up _) ?_; simp only [hv, hlt, decide_true, eq_self, ne_eq, not_false_eq_true, Option.map_some, Option.map_none, List.map_cons, List.map_nil, Bool.not_true, Bool.not_false, decide_true, decide_false, List.getElem?_cons_zero, List.getElem?_cons_succ, ↓aw1, ↓aw2, ↓aw17, aw3, aw4, aw5, aw6, aw7, aw8, aw9, aw10, aw11, aw12, aw13, aw14, aw15, aw16, Nat.reduceLeDiff, if_true, if_false, Nat.reduceEqDiff, Nat.reduceAdd, beq_self_eq_true, beq_true, beq_false, Bool.false_eq_true]))
            exact Fin.same0 hcl rfl ⟨rfl, rfl⟩
        · have hv : whl s.data.toList = true := by rw [← hI]; simp [hk, ht]
          cases hlt : lt97 (pk s.data.toList 0)
          all_goals
            try simp only [ne_eq, not_false_eq_true, Option.map_some, Option.map_none, List.map_cons, List.map_nil, Bool.not_true, Bool.not_false, decide_true, decide_false, List.getElem?_cons_zero, List.getElem?_cons_succ, ↓aw1, ↓aw2, ↓aw17, aw3, aw4, aw5, aw6, aw7, aw8, aw9, aw10, aw11, aw12, aw13, aw14, aw15, aw16, Nat.reduceLeDiff, if_true, if_false, Nat.reduceEqDiff, Nat.reduceAdd, beq_self_eq_true, beq_true, beq_false, Bool.false_eq_true]
            refine EvF.ret (up _) ?_
            simp only [hv, hlt, decide_true, decide_false, eq_self, ne_eq, not_false_eq_true, Option.map_some, Option.map_none, List.map_cons, List.map_nil, Bool.not_true, Bool.not_false, decide_true, decide_false, List.getElem?_cons_zero, List.getElem?_cons_succ, ↓aw1, ↓aw2, ↓aw17, aw3, aw4, aw5, aw6, aw7, aw8, aw9, aw10, aw11, aw12, aw13, aw14, aw15, aw16, Nat.reduceLeDiff, if_true, if_false, Nat.reduceEqDiff, Nat.reduceAdd, beq_self_eq_true, beq_true, beq_false, Bool.false_eq_true]
            repeat (first | (refine EvF.ret (lo _) ?_; simp only [hv, hlt, decide_true, eq_self, ne_eq, not_false_eq_true, Option.map_some, Option.map_none, List.map_cons, List.map_nil, Bool.not_true, Bool.not_false, decide_true, decide_false, List.getElem?_cons_zero, List.getElem?_cons_succ, ↓aw1, ↓aw2, ↓aw17, aw3, aw4, aw5, aw6, aw7, aw8, aw9, aw10, aw11, aw12, aw13, aw14, aw15, aw16, Nat.reduceLeDiff, if_true, if_false, Nat.reduceEqDiff, Nat.reduceAdd, beq_self_eq_true, beq_true, beq_false, Bool.false_eq_true]) | (refine EvF.ret (up _) ?_; simp only [hv, hlt, decide_true, eq_self, ne_eq, not_false_eq_true, Option.map_some, Option.map_none, List.map_cons, List.map_nil, Bool.not_true, Bool.not_false, decide_true, decide_false, List.getElem?_cons_zero, List.getElem?_cons_succ, ↓aw1, ↓aw2, ↓aw17, aw3, aw4, aw5, aw6, aw7, aw8, aw9, aw10, aw11, aw12, aw13, aw14, aw15, aw16, Nat.reduceLeDiff, if_true, if_false, Nat.reduceEqDiff, Nat.reduceAdd, beq_self_eq_true, beq_true, beq_false, Bool.false_eq_true]))
            exact Fin.same0 hcl rfl ⟨rfl, rfl⟩
    · have hv : whl s.data.toList = false := by rw [← hI]; simp [hl]
      have z1 : decide (((toks.map tokv).length : Int) = 1) = false := by simp; omega
      rcases hc with rfl | rfl
      all_goals
        simp only [z0, z1, ne_eq, not_false_eq_true, Option.map_some, Option.map_none, List.map_cons, List.map_nil, Bool.not_true, Bool.not_false, decide_true, decide_false, List.getElem?_cons_zero, List.getElem?_cons_succ, ↓aw1, ↓aw2, ↓aw17, aw3, aw4, aw5, aw6, aw7, aw8, aw9, aw10, aw11, aw12, aw13, aw14, aw15, aw16, Nat.reduceLeDiff, if_true, if_false, Nat.reduceEqDiff, Nat.reduceAdd, beq_self_eq_true, beq_true, beq_false, Bool.false_eq_true]
        cases hlt : lt97 (pk s.data.toList 0)
        all_goals
          try simp only [ne_eq, not_false_eq_true, Option.map_some, Option.map_none, List.map_cons, List.map_nil, Bool.not_true, Bool.not_false, decide_true, decide_false, List.getElem?_cons_zero, List.getElem?_cons_succ, ↓aw1, ↓aw2, ↓aw17, aw3, aw4, aw5, aw6, aw7, aw8, aw9, aw10, aw11, aw12, aw13, aw14, aw15, aw16, Nat.reduceLeDiff, if_true, if_false, Nat.reduceEqDiff, Nat.reduceAdd, beq_self_eq_true, beq_true, beq_false, Bool.false_eq_true]
          refine EvF.ret (up _) ?_
          simp only [hv, hlt, decide_true, decide_false, eq_self, ne_eq, not_false_eq_true, Option.map_some, Option.map_none, List.map_cons, List.map_nil, Bool.not_true, Bool.not_false, decide_true, decide_false, List.getElem?_cons_zero, List.getElem?_cons_succ, ↓aw1, ↓aw2, ↓aw17, aw3, aw4, aw5, aw6, aw7, aw8, aw9, aw10, aw11, aw12, aw13, aw14, aw15, aw16, Nat.reduceLeDiff, if_true, if_false, Nat.reduceEqDiff, Nat.reduceAdd, beq_self_eq_true, beq_true, beq_false, Bool.false_eq_true]
          repeat (first | (refine EvF.ret (lo _) ?_; simp only [hv, hlt, decide_true, eq_self, ne_eq, not_false_eq_true, Option.map_some, Option.map_none, List.map_cons, List.map_nil, Bool.not_true, Bool.not_false, decide_true, decide_false, List.getElem?_cons_zero, List.getElem?_cons_succ, ↓aw1, ↓aw2, ↓aw17, aw3, aw4, aw5, aw6, aw7, aw8, aw9, aw10, aw11, aw12, aw13, aw14, aw15, aw16, Nat.reduceLeDiff, if_true, if_false, Nat.reduceEqDiff, Nat.reduceAdd, beq_self_eq_true, beq_true, beq_false, Bool.false_eq_true]) | (refine EvF.ret (up _) ?_; simp only [hv, hlt, decide_true, eq_self, ne_eq, not_false_eq_true, Option.map_some, Option.map_none, List.map_cons, List.map_nil, Bool.not_true, Bool.not_false, decide_true, decide_false, List.getElem?_cons_zero, List.getElem?_cons_succ, ↓aw1, ↓aw2, ↓aw17, aw3, aw4, aw5, aw6, aw7, aw8, aw9, aw10, aw11, aw12, aw13, aw14, aw15, aw16, Nat.reduceLeDiff, if_true, if_false, Nat.reduceEqDiff, Nat.reduceAdd, beq_self_eq_true, beq_true, beq_false, Bool.false_eq_true]))
          exact Fin.same0 hcl rfl ⟨rfl, rfl⟩
  · have hv : whl s.data.toList = false := by rw [← hI]; simp [he]
    have z0 : decide ((e : Int) = 0) = false := by simp; omega
    rcases hc with rfl | rfl
    all_goals
      simp only [z0, ne_eq, not_false_eq_true, Option.map_some, Option.map_none, List.map_cons, List.map_nil, Bool.not_true, Bool.not_false, decide_true, decide_false, List.getElem?_cons_zero, List.getElem?_cons_succ, ↓aw1, ↓aw2, ↓aw17, aw3, aw4, aw5, aw6, aw7, aw8, aw9, aw10, aw11, aw12, aw13, aw14, aw15, aw16, Nat.reduceLeDiff, if_true, if_false, Nat.reduceEqDiff, Nat.reduceAdd, beq_self_eq_true, beq_true, beq_false, Bool.false_eq_true]
      cases hlt : lt97 (pk s.data.toList 0)
      all_goals
        try simp only [ne_eq, not_false_eq_true, Option.map_some, Option.map_none, List.map_cons, List.map_nil, Bool.not_true, Bool.not_false, decide_true, decide_false, List.getElem?_cons_zero, List.getElem?_cons_succ, ↓aw1, ↓aw2, ↓aw17, aw3, aw4, aw5, aw6, aw7, aw8, aw9, aw10, aw11, aw12, aw13, aw14, aw15, aw16, Nat.reduceLeDiff, if_true, if_false, Nat.reduceEqDiff, Nat.reduceAdd, beq_self_eq_true, beq_true, beq_false, Bool.false_eq_true]
        refine EvF.ret (up _) ?_
        simp only [hv, hlt, decide_true, decide_false, eq_self, ne_eq, not_false_eq_true, Option.map_some, Option.map_none, List.map_cons, List.map_nil, Bool.not_true, Bool.not_false, decide_true, decide_false, List.getElem?_cons_zero, List.getElem?_cons_succ, ↓aw1, ↓aw2, ↓aw17, aw3, aw4, aw5, aw6, aw7, aw8, aw9, aw10, aw11, aw12, aw13, aw14, aw15, aw16, Nat.reduceLeDiff, if_true, if_false, Nat.reduceEqDiff, Nat.reduceAdd, beq_self_eq_true, beq_true, beq_false, Bool.false_eq_true]
        repeat (first | (refine EvF.ret (lo _) ?_; simp only [hv, hlt, decide_true, eq_self, ne_eq, not_false_eq_true, Option.map_some, Option.map_none, List.map_cons, List.map_nil, Bool.not_true, Bool.not_false, decide_true, decide_false, List.getElem?_cons_zero, List.getElem?_cons_succ, ↓aw1, ↓aw2, ↓aw17, aw3, aw4, aw5, aw6, aw7, aw8, aw9, aw10, aw11, aw12, aw13, aw14, aw15, aw16, Nat.reduceLeDiff, if_true, if_false, Nat.reduceEqDiff, Nat.reduceAdd, beq_self_eq_true, beq_true, beq_false, Bool.false_eq_true]) | (refine EvF.ret (up _) ?_; simp only [hv, hlt, decide_true, eq_self, ne_eq, not_false_eq_true, Option.map_some, Option.map_none, List.map_cons, List.map_nil, Bool.not_true, Bool.not_false, decide_true, decide_false, List.getElem?_cons_zero, List.getElem?_cons_succ, ↓aw1, ↓aw2, ↓aw17, aw3, aw4, aw5, aw6, aw7, aw8, aw9, aw10, aw11, aw12, aw13, aw14, aw15, aw16, Nat.reduceLeDiff, if_true, if_false, Nat.reduceEqDiff, Nat.reduceAdd, beq_self_eq_true, beq_true, beq_false, Bool.false_eq_true]))
        exact Fin.same0 hcl rfl ⟨rfl, rfl⟩
end Go.Abs.T7
