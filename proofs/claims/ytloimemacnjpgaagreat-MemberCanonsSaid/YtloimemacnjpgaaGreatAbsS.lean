/- Code and functions: soundness. -/
import Derived.Test.YtloimemacnjpgaaGreatAbsR
set_option linter.all false
namespace Go.Abs
open Go Go.RowKit

variable {E : Env} {B : Base}

theorem adraw_sound {K : ASt → Prop} {Q : AEx → ASt → Prop} {σ : ASt} {a : Act} {w : World} {g : Gh} {ops : Array Oper} {id : Nat} {as : List AOper} (hm : E.P.follows .mixedOrders = true) (ho : orderOk ops = true)
    (hc : compOps E.P B.nt [] id ops (List.range ops.size) = some as) (hKQ : ∀ σ, K σ → Q .normal σ) (hR : RA E B σ a w g) (hv : adraw E K as σ) : (Code.region id ops true).wp E.P (QC E B Q) a w := by
  obtain ⟨vals, hl, hst, hK⟩ := adraw_vals as σ hv
  refine wp_region_any hm ?_
  have hg : Grown w g σ.heap.length { w with drawn := w.drawn + 1 } g := ⟨Nat.le_refl _, rfl, rfl, rfl, fun _ _ => rfl, fun _ _ _ => rfl, fun _ _ => rfl, hR.gok⟩
  refine any_sound hc ho hl hst hK hKQ ops.size (Array.replicate ops.size false) σ.tmps a _ g (by simp) (fun j hj hL => ?_) (fun t => ?_) ?_ (hR.grow' hg)
  · exfalso
    rw [Array.getD_eq_getD_getElem?] at hL
    simp [hj] at hL
  · rw [lastW_none]
    · rfl
    · intro j _
      rw [Array.getD_eq_getD_getElem?]
      cases h : (Array.replicate ops.size false)[j]? with
      | none => rfl
      | some v => have := Array.getElem?_eq_some_iff.1 h; obtain ⟨_, rfl⟩ := this; simp
  · exact Nat.le_trans (List.length_filter_le _ _) (by simp)

theorem reach_listed {ops : Array Oper} {listed : Array Bool} (hcl : ∀ j, j < ops.size → listed.getD j false = true → ∀ oj e, ops[j]? = some oj → e ∈ oj.after → Region.binds .any e = true → listed.getD e.on false = true) :
    ∀ (f i j : Nat), reach ops f i j = true → (∀ oi, ops[i]? = some oi → ∀ e ∈ oi.after, Region.binds .any e = true → listed.getD e.on false = true) → listed.getD j false = true
  | 0, i, j, h, _ => by simp [reach] at h
  | f + 1, i, j, h, hi => by
    unfold reach at h
    split at h
    · cases h
    · rename_i o ho
      obtain ⟨e, he, hb⟩ := Array.any_eq_true'.1 h
      simp only [Bool.and_eq_true, Bool.or_eq_true, beq_iff_eq] at hb
      have hl := hi o ho e he hb.1
      rcases hb.2 with rfl | hr
      · exact hl
      · refine reach_listed hcl f e.on j hr fun oi hoi e' he' hb' => ?_
        exact hcl e.on (Array.getElem?_eq_some_iff.1 hoi).1 hl oi e' hoi he' hb'

theorem aop_noQ {K : ASt → Prop} {Q Q' : AEx → ASt → Prop} {σ : ASt} {d : Option Nat} {ao : AOp} (h : (match ao with | .call _ _ | .panic _ => false | _ => true) = true) (hv : aop E σ d K Q ao) : aop E σ d K Q' ao := by
  cases ao <;> first | exact hv | (simp at h; done)

theorem tails_sound {Q : AEx → ASt → Prop} {Qs : Exit → Act → World → Prop} {ops : Array Oper} {id : Nat} {hs : Hints} (ho : orderOk ops = true)
    (hQs : ∀ a w, QC E B Q .normal a w → Qs .normal a w) :
    ∀ (k n : Nat) (ts : List AOper), n + k = ops.size → (∀ i, n ≤ i → i < ops.size → ∀ j, j < i → reach ops ops.size i j = true) → compOps E.P B.nt hs id ops ((List.range ops.size).drop n) = some ts → (ts.all fun o => o.guard.isNone) = true →
      (noCall ts = true ∨ ∀ c a w, QC E B Q c a w → Qs c a w) →
      ∀ (fuel : Nat) (listed : Array Bool) (a : Act) (w : World) (g : Gh) (σ : ASt), listed.size = ops.size → (∀ j, j < n → listed.getD j false = true) → (∀ j, n ≤ j → listed.getD j false = false) →
      ((List.range ops.size).filter fun j => !listed.getD j false).length ≤ fuel → RA E B σ a w g → aops E (Q .normal) Q ts σ → wpAny E.P .any ops Qs fuel listed a w := by
  obtain ⟨_, hord⟩ := orderOk_spec ho
  intro k
  induction k with
  | zero =>
    intro n ts hn _ hc _ _ fuel listed a w g σ hsz hL hno hf hR hv
    rw [List.drop_eq_nil_of_le (by simp; omega)] at hc
    simp only [compOps, Option.some.injEq] at hc
    subst hc
    have hr : Region.ready .any ops listed = [] := by
      apply List.eq_nil_iff_forall_not_mem.2
      intro j hj
      obtain ⟨h1, o, ho', _⟩ := mem_ready.1 hj
      have hjl := (Array.getElem?_eq_some_iff.1 ho').1
      have := hL j (by omega)
      rw [Array.getD_eq_getD_getElem?] at h1 this
      rw [Array.getElem?_eq_getElem (by rw [hsz]; exact hjl)] at h1 this
      simp at h1 this
      rw [h1] at this; cases this
    have hq : Qs .normal a w := hQs _ _ ⟨.normal, σ, g, hv, rfl, hR⟩
    cases fuel with
    | zero => exact ⟨hr, hq⟩
    | succ fuel => exact ⟨fun _ => hq, fun i hi => by rw [hr] at hi; cases hi⟩
  | succ k ih =>
    intro n ts hn ha hc hgd hq fuel listed a w g σ hsz hL hno hf hR hv
    have hnl : n < ops.size := by omega
    have hdrop : (List.range ops.size).drop n = n :: (List.range ops.size).drop (n + 1) := by rw [List.drop_eq_getElem_cons (by simpa using hnl)]; simp
    rw [hdrop] at hc
    unfold compOps at hc
    split at hc
    · cases hc
    rename_i o hon
    split at hc
    rotate_left
    · cases hc
    rename_i ao gd rest hao hgdo hrest
    split at hc
    rotate_left
    · cases hc
    rename_i hdst
    cases hc
    simp only [List.all_cons, Bool.and_eq_true] at hgd
    have hg0 : gd = none := by simpa using hgd.1
    subst hg0
    have hgn : o.guard = none := by
      unfold guardOf at hgdo
      split at hgdo
      · assumption
      · split at hgdo <;> cases hgdo
    simp only [aops] at hv
    have hcl : ∀ j, j < ops.size → listed.getD j false = true → ∀ oj e, ops[j]? = some oj → e ∈ oj.after → Region.binds .any e = true → listed.getD e.on false = true := by
      intro j hj hLj oj e hoj he hb
      have hjn : j < n := by
        rcases Nat.lt_or_ge j n with h | h
        · exact h
        · rw [hno j h] at hLj; cases hLj
      exact hL _ (Nat.lt_trans ((hord j oj hoj).1 e he hb) hjn)
    have hun : listed[n]? = some false := by
      have := hno n (Nat.le_refl _)
      rw [Array.getD_eq_getD_getElem?] at this
      rw [Array.getElem?_eq_getElem (by omega)] at this ⊢
      simpa using this
    have hready : n ∈ Region.ready .any ops listed := mem_ready.2 ⟨by rw [Array.getD_eq_getD_getElem?, hun]; rfl, o, hon, fun e he hb => hL _ ((hord n o hon).1 e he hb)⟩
    have honly : ∀ {j}, j ∈ Region.ready .any ops listed → j = n := fun {j} hj => by
      obtain ⟨h1, oj, hoj, hw⟩ := mem_ready.1 hj
      have hjl := (Array.getElem?_eq_some_iff.1 hoj).1
      rcases Nat.lt_trichotomy j n with h | h | h
      · have := hL j h
        rw [Array.getD_eq_getD_getElem?] at h1 this
        rw [Array.getElem?_eq_getElem (by rw [hsz]; exact hjl)] at h1 this
        simp at h1 this
        rw [h1] at this; cases this
      · exact h
      · have := reach_listed hcl _ _ _ (ha j (by omega) hjl n h) fun oi hoi e he hb => by rw [hoj] at hoi; cases hoi; exact hw e he hb
        rw [hno n (Nat.le_refl _)] at this; cases this
    cases fuel with
    | zero =>
      exfalso
      have : n ∈ ((List.range ops.size).filter fun j => !listed.getD j false) := by rw [List.mem_filter]; exact ⟨List.mem_range.2 hnl, by rw [hno n (Nat.le_refl _)]; rfl⟩
      rw [List.length_eq_zero_iff.1 (Nat.le_zero.1 hf)] at this; cases this
    | succ fuel =>
      refine ⟨(fun hr => by rw [hr] at hready; cases hready), fun i hi => ?_⟩
      obtain rfl := honly hi
      have hnext : ∀ a' w', KC E B (fun σ' => aops E (Q .normal) Q rest σ') a' w' → wpAny E.P .any ops Qs fuel (listed.setIfInBounds i true) a' w' := by
        rintro a' w' ⟨σ', g', hk, hR'⟩
        refine ih (i + 1) rest (by omega) (fun i' h1 h2 => ha i' (by omega) h2) hrest hgd.2 ?_ fuel _ a' w' g' σ' (by simpa using hsz) ?_ ?_ ?_ hR' hk
        · rcases hq with hq | hq
          · left
            simp only [noCall, List.all_cons, Bool.and_eq_true] at hq
            exact hq.2
          · exact .inr hq
        · intro j hj
          rcases Nat.lt_or_ge j i with h | h
          · exact getD_set_true (hL j h)
          · obtain rfl : j = i := by omega
            rw [Array.getD_eq_getD_getElem?]; simp [Array.getElem?_setIfInBounds, hsz, hnl]
        · intro j hj
          rw [getD_set_ne false (by omega)]
          exact hno j (by omega)
        · have e3 : ((List.range ops.size).filter fun j => !(listed.setIfInBounds i true).getD j false) = (((List.range ops.size).filter fun j => !listed.getD j false).filter fun j => j != i) := by
            rw [List.filter_filter]
            refine List.filter_congr fun j hj => ?_
            by_cases hji : i = j
            · subst hji
              have : (listed.setIfInBounds i true).getD i false = true := by rw [Array.getD_eq_getD_getElem?]; simp [Array.getElem?_setIfInBounds, hsz, hnl]
              rw [this]; simp
            · rw [getD_set_ne false hji]
              have : (j != i) = true := by simp; omega
              rw [this]; simp
          rw [e3]
          have : (((List.range ops.size).filter fun j => !listed.getD j false).filter fun j => j != i).length < ((List.range ops.size).filter fun j => !listed.getD j false).length := by
            rw [List.length_filter_lt_length_iff_exists]
            exact ⟨i, by rw [List.mem_filter]; exact ⟨List.mem_range.2 hnl, by rw [hno i (Nat.le_refl _)]; rfl⟩, by simp⟩
          omega
      unfold wpOp
      simp only [hon]
      rw [if_pos (by simp [Region.wanted, hgn])]
      left
      rcases hq with hq | hq
      · simp only [noCall, List.all_cons, Bool.and_eq_true] at hq
        exact Oper.wp_mono (fun a' w' h => hnext a' w' h) (Oper.wp_noQ (op_sound (Q := fun _ _ => False) hao (dstOk_spec hdst) hR (aop_noQ hq.1 hv)))
      · have hop := op_sound (Q := Q) hao (dstOk_spec hdst) hR hv
        refine Oper.wp_mono (fun a' w' h => hnext a' w' h) ?_
        exact Oper.wp_post hq hop

theorem replicate_false {n j : Nat} : (Array.replicate n false).getD j false = false := by
  rw [Array.getD_eq_getD_getElem?]
  cases h : (Array.replicate n false)[j]? with
  | none => rfl
  | some v => have := Array.getElem?_eq_some_iff.1 h; obtain ⟨_, rfl⟩ := this; simp

theorem mix_sound {Q : AEx → ASt → Prop} {σ : ASt} {a : Act} {w : World} {g : Gh} {ops : Array Oper} {id p n : Nat} {hs : Hints} {ac : ACode} (hm : E.P.follows .mixedOrders = true) (ho : orderOk ops = true)
    (hc : compMix E.P B.nt hs id ops p n = some ac) (hR : RA E B σ a w g) (hv : awp E ac Q σ) : (Code.region id ops true).wp E.P (QC E B Q) a w := by
  unfold compMix at hc
  split at hc
  rotate_left
  · cases hc
  rename_i hcond
  obtain ⟨hn, hpn, hall⟩ := hcond
  have hreach : ∀ i, n ≤ i → i < ops.size → ∀ j, j < i → reach ops ops.size i j = true := by
    intro i h1 h2 j hj
    have := List.all_eq_true.1 hall i (List.mem_range.2 h2)
    simp only [Bool.or_eq_true, decide_eq_true_eq, List.all_eq_true, List.mem_range] at this
    rcases this with h | h
    · omega
    · exact h j hj
  split at hc
  rotate_left
  · cases hc
  rename_i as ts has hts
  split at hc
  rotate_left
  · cases hc
  rename_i hgd
  have hg : Grown w g σ.heap.length { w with drawn := w.drawn + 1 } g := ⟨Nat.le_refl _, rfl, rfl, rfl, fun _ _ => rfl, fun _ _ _ => rfl, fun _ _ => rfl, hR.gok⟩
  have hanc : ∀ (listed : Array Bool), (∀ j, j < ops.size → listed.getD j false = true → ∀ oj e, ops[j]? = some oj → e ∈ oj.after → Region.binds .any e = true → listed.getD e.on false = true) →
      ∀ i oi, n ≤ i → ops[i]? = some oi → (∀ e ∈ oi.after, Region.binds .any e = true → listed.getD e.on false = true) → ∀ j, j < n → listed.getD j false = true := by
    intro listed hcl i oi hi hoi hw j hj
    have hil := (Array.getElem?_eq_some_iff.1 hoi).1
    exact reach_listed hcl _ _ _ (hreach i hi hil j (by omega)) fun oi' hoi' e he hb => by rw [hoi] at hoi'; cases hoi'; exact hw e he hb
  split at hc
  · -- no first one
    cases hc
    simp only [awp] at hv
    obtain ⟨vals, hl, hst, hK⟩ := adraw_vals as σ hv
    simp only [thenQ] at hK
    refine wp_region_any hm ?_
    refine any_pre (n := n) (p := 0) hn has ho hl (fun i o v _ => hst i o v) hanc (fun fuel listed tmps a w g hsz hL hno hlk hheap hf hR => ?_) ops.size (Array.replicate ops.size false) σ.tmps a _ g (by simp)
      (fun j hj hL => by rw [replicate_false] at hL; cases hL) (fun j _ => replicate_false) (fun j hj => absurd hj (Nat.not_lt_zero _)) (fun t => ?_) (Nat.le_trans (List.length_filter_le _ _) (by simp)) (hR.grow' hg)
    · exact tails_sound ho (fun _ _ h => h) (ops.size - n) n ts (by omega) hreach hts hgd (.inr fun _ _ _ h => h) fuel listed a w g _ hsz hL hno hf (Weak.ra (σ := { σ with tmps := tmps }) ⟨hheap, fun t => .inl (hlk t).symm⟩ hR) hK
    · rw [lastW_none]
      · rfl
      · intro j _; exact replicate_false
  · -- the first one hands its room on
    split at hc
    rotate_left
    · cases hc
    rename_i o ao0 mid ho0
    have main : ∀ (d t : Nat), o.dst = some d → (o.op = .move (.tmp t) ∨ o.op = .assign (.tmp t)) → t ≠ d → o.guard = none → noCall ts = true →
        awp E (.seq (.region [⟨some d, .take t, none⟩]) (.seq (.draw mid) (.region ts))) Q σ → (Code.region id ops true).wp E.P (QC E B Q) a w := by
      intro d t hd hop htd hog hnc hv
      obtain ⟨hlen, hget⟩ := compOps_get _ _ has
      simp only [List.length_range] at hlen
      have hn0 : 0 < n := by simp at hlen; omega
      obtain ⟨ao, gd, hai, hao, hgd0, hdk⟩ := hget 0 0 o (by rw [List.getElem?_range hn0]) ho0
      simp only [List.getElem?_cons_zero, Option.some.injEq] at hai
      have hdl : d < B.nt := by rw [hd] at hdk; simpa [dstOk] using hdk
      -- the room goes on
      let σ0 : ASt := { σ with tmps := (t, (look σ.tmps t).strip) :: σ.tmps }
      have hv1 : adraw E (fun σ' => aops E (Q .normal) Q ts σ') mid (σ0.put d (look σ.tmps t)) := by
        have h1 := hv
        simp only [awp, aops, aop] at h1
        exact h1.2
      obtain ⟨vals, hl, hst, hK⟩ := adraw_vals mid _ hv1
      have hR1 := (hR.grow' hg).take (t := t) (d := d) hdl htd
      have hdst0 : ao0.dst = some d := by rw [hai]; exact hd
      have hpre : ∀ i, pre σ0 (ao0 :: mid) (look σ.tmps t :: vals) (i + 1) = pre (σ0.put d (look σ.tmps t)) mid vals i := fun i => by
        simp only [pre, hdst0, ASt.putO]
      have hmove : ∀ w, (execOp a.eval o).run E.P w = .ok (.value (a.tmps.getD t undef)) w := fun w => by
        rcases hop with hop | hop <;> (unfold execOp; rw [hop]; rfl)
      have hnosel := (orderOk_spec ho).1
      obtain ⟨_, hord⟩ := orderOk_spec ho
      have hmid : wpAny E.P .any ops (fun e a w => e = .normal ∧ QC E B Q .normal a w) (ops.size - 1) ((Array.replicate ops.size false).setIfInBounds 0 true) (a.put o.dst (a.tmps.getD t undef)) { w with drawn := w.drawn + 1 } := by
        have hos : 0 < ops.size := by omega
        have hg0 : ((Array.replicate ops.size false).setIfInBounds 0 true).getD 0 false = true := by
          rw [Array.getD_eq_getD_getElem?]; simp [Array.getElem?_setIfInBounds, hos]
        have hgj : ∀ j, 0 < j → ((Array.replicate ops.size false).setIfInBounds 0 true).getD j false = false := fun j hj => by
          rw [getD_set_ne false (by omega)]; exact replicate_false
        refine any_pre (n := n) (p := 1) (σ := σ0) (as := ao0 :: mid) (vals := look σ.tmps t :: vals) hn has ho (by simp [hl]) (fun i o' v hi hio hiv => ?_) hanc (fun fuel listed tmps a w g hsz hL hno hlk hheap hf hR => ?_) (ops.size - 1) _
          (σ0.put d (look σ.tmps t)).tmps _ _ _ (by simp) (fun j hj hL oj e hoj he hb => ?_) (fun j hj => hgj j (by omega)) (fun j hj => (show 0 = j by omega) ▸ hg0) (fun t' => ?_) ?_ (by rw [hd]; exact hR1)
        · obtain ⟨i, rfl⟩ : ∃ i', i = i' + 1 := ⟨i - 1, by omega⟩
          rw [hpre]
          exact hst i o' v (by simpa using hio) (by simpa using hiv)
        · rw [show (ao0 :: mid).length = mid.length + 1 from rfl, hpre] at hlk hheap
          exact tails_sound (Q := Q) ho (fun _ _ h => ⟨rfl, h⟩) (ops.size - n) n ts (by omega) hreach hts hgd (.inl hnc) fuel listed a w g _ hsz hL hno hf (Weak.ra (σ := { σ0 with tmps := tmps }) ⟨hheap, fun t => .inl (hlk t).symm⟩ hR) hK
        · by_cases hj0 : j = 0
          · subst hj0
            have := (hord 0 oj hoj).1 e he hb
            omega
          · rw [hgj j (by omega)] at hL; cases hL
        · rw [lastW_above (m := 1) _ (by simp) (fun j h1 h2 _ => hgj j (by omega))]
          simp only [lastW, List.getElem?_cons_zero, Option.bind_some, hdst0, ASt.put, look]
          by_cases hdt : d = t'
          · subst hdt; simp [hos]
          · simp [hdt]
        · have e3 : ((List.range ops.size).filter fun j => !((Array.replicate ops.size false).setIfInBounds 0 true).getD j false) = (List.range ops.size).filter fun j => j != 0 := by
            refine List.filter_congr fun j hj => ?_
            by_cases hj0 : j = 0
            · subst hj0; rw [hg0]; rfl
            · rw [hgj j (by omega)]; simp [hj0]
          rw [e3]
          have hlt : ((List.range ops.size).filter fun j => j != 0).length < (List.range ops.size).length := by
            rw [List.length_filter_lt_length_iff_exists]
            exact ⟨0, List.mem_range.2 hos, by simp⟩
          simp at hlt ⊢
          omega
      have hfirst : wpAny E.P .any ops (fun e a w => e = .normal ∧ QC E B Q .normal a w) (ops.size - 1 + 1) (Array.replicate ops.size false) a { w with drawn := w.drawn + 1 } := by
        refine wpAny_first ho0 (Region.noSelect_spec hnosel) (fun c a w h => by cases h.1) _ _ _ _ (fun j oj hoj hj _ hno => ?_) (mem_ready.2 ⟨?_, o, ho0, fun e he hb => absurd ((hord 0 o ho0).1 e he hb) (Nat.not_lt_zero _)⟩) (.inl ⟨by simp [Region.wanted, hog], hmove⟩) hmid
        · rcases (hord j oj hoj).2 0 o (by omega) ho0 with ⟨e, he, hb, h0⟩ | hap
          · exact absurd h0 (hno e he hb)
          · exact hap
        · rw [Array.getD_eq_getD_getElem?]
          have hos : 0 < ops.size := by omega
          simp [hos]
      have hsz1 : ops.size - 1 + 1 = ops.size := by omega
      rw [hsz1] at hfirst
      refine wp_mono (wp_region_any hm hfirst) ?_
      rintro e a' w' ⟨rfl, h⟩
      exact h
    split at hc
    · rename_i d t hd hop
      split at hc
      · rename_i h; obtain ⟨h1, h2, h3⟩ := h; cases hc; exact main d t hd (.inl hop) h1 h2 h3 hv
      · cases hc
    · rename_i d t hd hop
      split at hc
      · rename_i h; obtain ⟨h1, h2, h3⟩ := h; cases hc; exact main d t hd (.inr hop) h1 h2 h3 hv
      · cases hc
    · cases hc
  · cases hc

theorem eff_sound {Q : AEx → ASt → Prop} {σ : ASt} {a : Act} {w : World} {g : Gh} {ops : Array Oper} {id n : Nat} {hs : Hints} {ac : ACode} (hm : E.P.follows .mixedOrders = true) (ho : orderOk ops = true)
    (hc : compEff E.P B.nt hs id ops n = some ac) (hR : RA E B σ a w g) (hv : awp E ac Q σ) : (Code.region id ops true).wp E.P (QC E B Q) a w := by
  unfold compEff at hc
  split at hc
  rotate_left
  · cases hc
  rename_i hcond
  obtain ⟨hn, hall, hch, hfree⟩ := hcond
  have hreach : ∀ i, n ≤ i → i < ops.size → ∀ j, j < i → reach ops ops.size i j = true := by
    intro i h1 h2 j hj
    have := List.all_eq_true.1 hall i (List.mem_range.2 h2)
    simp only [Bool.or_eq_true, decide_eq_true_eq, List.all_eq_true, List.mem_range] at this
    rcases this with h | h
    · omega
    · exact h j hj
  split at hc
  rotate_left
  · cases hc
  rename_i as ts has hts
  split at hc
  rotate_left
  · cases hc
  rename_i hgd
  cases hc
  have hg : Grown w g σ.heap.length { w with drawn := w.drawn + 1 } g := ⟨Nat.le_refl _, rfl, rfl, rfl, fun _ _ => rfl, fun _ _ _ => rfl, fun _ _ => rfl, hR.gok⟩
  have hrl : ∀ (listed : Array Bool), (∀ j, j < ops.size → listed.getD j false = true → ∀ oj e, ops[j]? = some oj → e ∈ oj.after → Region.binds .any e = true → listed.getD e.on false = true) →
      ∀ i oi j, ops[i]? = some oi → (∀ e ∈ oi.after, Region.binds .any e = true → listed.getD e.on false = true) → reach ops ops.size i j = true → listed.getD j false = true := by
    intro listed hcl i oi j hoi hw hr
    exact reach_listed hcl _ _ _ hr fun oi' hoi' e he hb => by rw [hoi] at hoi'; cases hoi'; exact hw e he hb
  simp only [awp, aeff] at hv
  obtain ⟨v0, hl0, _, _, hst, hach⟩ := aflt_vals as _ σ _ hv
  refine wp_region_any hm ?_
  refine any_eff (n := n) hn has ho hch hfree (fun listed hcl i oi hi hoi hw j hj => hrl listed hcl i oi j hoi hw (hreach i hi (Array.getElem?_eq_some_iff.1 hoi).1 j (by omega))) hrl (Kend := fun σ' => thenQ (aops E (Q .normal) Q ts) Q .normal σ')
    (fun fuel listed vs h tmps a w g hsz hL hno hK hlk hheap hf hR => ?_) ops.size (Array.replicate ops.size false) (effIdx (effFl hs id n) 0) v0 σ.heap σ.tmps a _ g (by simp)
    (fun j hj hL => by rw [replicate_false] at hL; cases hL) (fun j _ => replicate_false) hl0 (fun e => ?_) (effIdx_sorted _ _) (fun i _ => rfl) hst hach (fun t => ?_) (Nat.le_trans (List.length_filter_le _ _) (by simp)) (hR.grow' hg)
  · simp only [thenQ] at hK
    exact tails_sound ho (fun _ _ h => h) (ops.size - n) n ts (by omega) hreach hts hgd (.inr fun _ _ _ h => h) fuel listed a w g _ hsz hL hno hf (Weak.ra (σ := { tmps := tmps, heap := h }) ⟨hheap, fun t => .inl (hlk t).symm⟩ hR) hK
  · rw [effIdx_mem, replicate_false]
    simp
  · rw [lastW_none]
    · rfl
    · intro j _; exact replicate_false

theorem least_exists {p : Nat → Prop} (h : ∃ n, p n) : ∃ n, p n ∧ ∀ m, p m → n ≤ m := by
  obtain ⟨n, hn⟩ := h
  induction n using Nat.strongRecOn with
  | _ n ih =>
    by_cases h : ∃ m, m < n ∧ p m
    · obtain ⟨m, hm, hp⟩ := h; exact ih m hm hp
    · exact ⟨n, hn, fun m hp => by
        rcases Nat.lt_or_ge m n with h' | h'
        · exact absurd ⟨m, h', hp⟩ h
        · exact h'⟩

open Classical in
noncomputable def least (p : Nat → Prop) : Nat := if h : ∃ n, p n then Classical.choose (least_exists h) else 0
theorem least_spec {p : Nat → Prop} (h : ∃ n, p n) : p (least p) := by
  unfold least; rw [dif_pos h]; exact (Classical.choose_spec (least_exists h)).1
theorem least_le {p : Nat → Prop} {m : Nat} (hm : p m) : least p ≤ m := by
  unfold least; rw [dif_pos ⟨m, hm⟩]; exact (Classical.choose_spec (least_exists ⟨m, hm⟩)).2 m hm

theorem awp_sound : ∀ (c : Code) (ac : ACode) (hs : Hints) (Q : AEx → ASt → Prop) (σ : ASt), comp E.P B.nt hs c = some ac → awp E ac Q σ →
    ∀ a w g, RA E B σ a w g → c.wp E.P (QC E B Q) a w := by
  intro c
  induction c with
  | skip => intro ac hs Q σ hc hv a w g hR; simp only [comp] at hc; cases hc; exact wp_skip ⟨.normal, σ, g, hv, rfl, hR⟩
  | label l => intro ac hs Q σ hc hv a w g hR; simp only [comp] at hc; cases hc; exact wp_label ⟨.normal, σ, g, hv, rfl, hR⟩
  | ret => intro ac hs Q σ hc hv a w g hR; simp only [comp] at hc; cases hc; exact wp_ret ⟨.ret, σ, g, hv, rfl, hR⟩
  | exit id => intro ac hs Q σ hc hv a w g hR; simp only [comp] at hc; cases hc; exact wp_exit ⟨.exit id, σ, g, hv, rfl, hR⟩
  | region id ops draw =>
    intro ac hs Q σ hc hv a w g hR
    cases draw with
    | false =>
      simp only [comp, Option.map_eq_some_iff] at hc
      obtain ⟨as, h1, rfl⟩ := hc
      exact wp_region (aops_sound _ as σ a w g h1 hR hv)
    | true =>
      simp only [comp] at hc
      split at hc
      · rename_i hb
        simp only [Bool.and_eq_true] at hb
        split at hc
        · split at hc
          · exact eff_sound hb.1 hb.2 hc hR hv
          · exact mix_sound hb.1 hb.2 hc hR hv
        · simp only [Option.map_eq_some_iff] at hc
          obtain ⟨as, h1, rfl⟩ := hc
          exact adraw_sound hb.1 hb.2 h1 (fun _ h => h) hR hv
      · cases hc
  | seq x y ihx ihy =>
    intro ac hs Q σ hc hv a w g hR
    simp only [comp] at hc
    split at hc
    · rename_i ax ay hx hy
      cases hc
      simp only [awp] at hv
      refine wp_seq (wp_mono (ihx ax hs _ σ hx hv a w g hR) ?_)
      rintro e a' w' ⟨ae, σ', g', hq, he, hR'⟩
      cases ae with
      | normal => cases he; exact ihy ay hs Q σ' hy hq a' w' g' hR'
      | exit id => cases he; exact ⟨_, σ', g', hq, rfl, hR'⟩
      | ret => cases he; exact ⟨_, σ', g', hq, rfl, hR'⟩
      | panic v => obtain ⟨u, rfl, hr⟩ := he; exact ⟨_, σ', g', hq, ⟨u, rfl, hr⟩, hR'⟩
    · cases hc
  | cond c x y ihx ihy =>
    intro ac hs Q σ hc hv a w g hR
    simp only [comp] at hc
    split at hc
    · rename_i ax ay hx hy
      cases hc
      simp only [awp] at hv
      split at hv
      · rename_i b hb
        have hr := ASt.ev_rep hR c
        rw [hb, Rep.lit_iff] at hr
        exact wp_cond_split hr (fun h => ihx ax hs Q σ hx (hv.1 h) a w g hR) (fun h => ihy ay hs Q σ hy (hv.2 h) a w g hR)
      · exact hv.elim
    · cases hc
  | block id c ih =>
    intro ac hs Q σ hc hv a w g hR
    simp only [comp, Option.map_eq_some_iff] at hc
    obtain ⟨ax, hx, rfl⟩ := hc
    simp only [awp] at hv
    refine wp_block (wp_mono (ih ax hs _ σ hx hv a w g hR) ?_)
    rintro e a' w' ⟨ae, σ', g', hq, he, hR'⟩
    cases ae with
    | normal => cases he; exact ⟨_, σ', g', hq, rfl, hR'⟩
    | exit id' =>
      cases he
      simp only [blockQ] at hq
      simp only [Exit.inBlock]
      split
      · rename_i hi; rw [if_pos hi] at hq; exact ⟨_, σ', g', hq, rfl, hR'⟩
      · rename_i hi; rw [if_neg hi] at hq; exact ⟨_, σ', g', hq, rfl, hR'⟩
    | ret => cases he; exact ⟨_, σ', g', hq, rfl, hR'⟩
    | panic v => obtain ⟨u, rfl, hr⟩ := he; exact ⟨_, σ', g', hq, ⟨u, rfl, hr⟩, hR'⟩
  | loop c ih =>
    intro ac hs Q σ hc hv a w g hR
    simp only [comp, Option.map_eq_some_iff] at hc
    obtain ⟨ax, hx, rfl⟩ := hc
    simp only [awp] at hv
    obtain ⟨I, ⟨n, σ0, hw0, hI0⟩, hround⟩ := hv
    let p : Act → World → Nat → Prop := fun a w n => ∃ σ' g', I n σ' ∧ RA E B σ' a w g'
    refine wp_loop (fun a w => ∃ n, p a w n) (fun a w => least (p a w)) ⟨n, σ0, g, hI0, hw0.ra hR⟩ ?_
    intro a1 w1 hI1
    obtain ⟨σ1, g1, h1, hR1⟩ := least_spec hI1
    refine wp_mono (ih ax hs _ σ1 hx (hround _ σ1 h1) a1 w1 g1 hR1) ?_
    rintro e a' w' ⟨ae, σ', g', hq, he, hR'⟩
    cases ae with
    | normal =>
      cases he
      obtain ⟨m, σ2, hm, hw2, hI2⟩ := hq
      have hp : p a' w' m := ⟨σ2, g', hI2, hw2.ra hR'⟩
      exact ⟨⟨m, hp⟩, Nat.lt_of_le_of_lt (least_le hp) hm⟩
    | exit id => cases he; exact ⟨_, σ', g', hq, rfl, hR'⟩
    | ret => cases he; exact ⟨_, σ', g', hq, rfl, hR'⟩
    | panic v => obtain ⟨u, rfl, hr⟩ := he; exact ⟨_, σ', g', hq, ⟨u, rfl, hr⟩, hR'⟩
  | _ => intro ac hs Q σ hc; simp [comp] at hc

mutual
/-- No object from n on is named. -/
def AV.under (n : Nat) : AV → Bool
  | .any => true
  | .lit _ => true
  | .agg cs => unders n cs
  | .tup cs => unders n cs
  | .sl _ es => unders n es
  | .cp cs => unders n cs
  | .ref id _ => decide (id < n)
  | .vw id _ _ _ => decide (id < n)
  | .fn _ first caps => unders n first && unders n caps
  | .ifc _ v => AV.under n v
  | .mp id => decide (id < n)
  | .bp _ => true
  | .buf _ _ => true
def unders (n : Nat) : List AV → Bool
  | [] => true
  | a :: as => AV.under n a && unders n as
end

mutual
theorem Rep.fewer {w g n n'} : ∀ (av : AV) (v : Value), AV.under n' av = true → Rep w g n av v → Rep w g n' av v
  | .any, _, _, _ => by simp [Rep]
  | .lit _, _, _, h => by simpa [Rep] using h
  | .agg cs, v, hb, h => by
    simp only [Rep] at h ⊢
    obtain ⟨vs, rfl, h⟩ := h
    exact ⟨vs, rfl, Reps.fewer cs _ (by simpa [AV.under] using hb) h⟩
  | .tup cs, v, hb, h => by
    simp only [Rep] at h ⊢
    obtain ⟨vs, rfl, h⟩ := h
    exact ⟨vs, rfl, Reps.fewer cs _ (by simpa [AV.under] using hb) h⟩
  | .sl c es, v, hb, h => by
    simp only [Rep] at h ⊢
    obtain ⟨base, len, cap, rfl, h1, h2, h3, h4, h5⟩ := h
    exact ⟨base, len, cap, rfl, h1, h2, h3, h4, fun a ha => let ⟨h6, k, h7⟩ := h5 a ha; ⟨h6, k, Els.fewer es _ _ _ (by simpa [AV.under] using hb) h7⟩⟩
  | .cp cs, v, hb, h => by
    simp only [Rep] at h ⊢
    obtain ⟨b, off, vs, rfl, h1, h2⟩ := h
    exact ⟨b, off, vs, rfl, h1, Reps.fewer cs _ (by simpa [AV.under] using hb) h2⟩
  | .ref id off, v, hb, h => by
    simp only [Rep] at h ⊢
    exact ⟨h.1, by simpa [AV.under] using hb⟩
  | .vw id off len cap, v, hb, h => by
    simp only [Rep] at h ⊢
    exact ⟨h.1, by simpa [AV.under] using hb, h.2.2⟩
  | .fn f first caps, v, hb, h => by
    simp only [Rep] at h ⊢
    obtain ⟨fa, ca, rfl, h1, h2⟩ := h
    simp only [AV.under, Bool.and_eq_true] at hb
    exact ⟨fa, ca, rfl, Reps.fewer first _ hb.1 h1, Reps.fewer caps _ hb.2 h2⟩
  | .ifc t av, v, hb, h => by
    simp only [Rep] at h ⊢
    obtain ⟨y, rfl, h1⟩ := h
    exact ⟨y, rfl, Rep.fewer av _ (by simpa [AV.under] using hb) h1⟩
  | .mp id, v, hb, h => by
    simp only [Rep] at h ⊢
    exact ⟨h.1, by simpa [AV.under] using hb⟩
  | .bp _, _, _, _ => by simp [Rep]
  | .buf _ _, _, _, _ => by simp [Rep]
theorem Reps.fewer {w g n n'} : ∀ (as : List AV) (vs : List Value), unders n' as = true → Reps w g n as vs → Reps w g n' as vs
  | [], _, _, h => by simpa [Reps] using h
  | a :: as, vs, hb, h => by
    simp only [Reps] at h ⊢
    obtain ⟨v, rest, rfl, h1, h2⟩ := h
    simp only [unders, Bool.and_eq_true] at hb
    exact ⟨v, rest, rfl, Rep.fewer a _ hb.1 h1, Reps.fewer as _ hb.2 h2⟩
theorem Els.fewer {w g n n'} : ∀ (es : List AV) (b off k : Nat), unders n' es = true → Els w g n es b off k → Els w g n' es b off k
  | [], _, _, _, _, _ => by simp [Els]
  | e :: es, b, off, k, hb, h => by
    simp only [Els] at h ⊢
    obtain ⟨⟨v, h1, h2, h3⟩, h4⟩ := h
    simp only [unders, Bool.and_eq_true] at hb
    exact ⟨⟨v, Rep.fewer e _ hb.1 h1, h2, h3⟩, Els.fewer es _ _ _ hb.2 h4⟩
end

mutual
theorem Rep.under {w g n} : ∀ (av : AV) (v : Value), Rep w g n av v → AV.under n av = true
  | .any, _, _ => by simp [AV.under]
  | .lit _, _, _ => by simp [AV.under]
  | .agg cs, v, h => by
    simp only [Rep] at h
    obtain ⟨vs, rfl, h⟩ := h
    simpa [AV.under] using Reps.under cs _ h
  | .tup cs, v, h => by
    simp only [Rep] at h
    obtain ⟨vs, rfl, h⟩ := h
    simpa [AV.under] using Reps.under cs _ h
  | .sl c es, v, h => by
    simp only [Rep] at h
    obtain ⟨base, len, cap, rfl, h1, h2, h3, h4, h5⟩ := h
    simp only [AV.under]
    cases base with
    | none =>
      have : es = [] := List.length_eq_zero_iff.1 (by have := h4 rfl; omega)
      subst this; rfl
    | some a => obtain ⟨_, k, h7⟩ := h5 a rfl; exact Els.under es _ _ _ h7
  | .cp cs, v, h => by
    simp only [Rep] at h
    obtain ⟨b, off, vs, rfl, h1, h2⟩ := h
    simpa [AV.under] using Reps.under cs _ h2
  | .ref id off, v, h => by simp only [Rep] at h; simpa [AV.under] using h.2
  | .vw id off len cap, v, h => by simp only [Rep] at h; simpa [AV.under] using h.2.1
  | .fn f first caps, v, h => by
    simp only [Rep] at h
    obtain ⟨fa, ca, rfl, h1, h2⟩ := h
    simp only [AV.under, Bool.and_eq_true]
    exact ⟨Reps.under first _ h1, Reps.under caps _ h2⟩
  | .ifc t av, v, h => by
    simp only [Rep] at h
    obtain ⟨y, rfl, h1⟩ := h
    simpa [AV.under] using Rep.under av _ h1
  | .mp id, v, h => by simp only [Rep] at h; simpa [AV.under] using h.2
  | .bp _, _, _ => by simp [AV.under]
  | .buf _ _, _, _ => by simp [AV.under]
theorem Reps.under {w g n} : ∀ (as : List AV) (vs : List Value), Reps w g n as vs → unders n as = true
  | [], _, _ => by simp [unders]
  | a :: as, vs, h => by
    simp only [Reps] at h
    obtain ⟨v, rest, rfl, h1, h2⟩ := h
    simp only [unders, Bool.and_eq_true]
    exact ⟨Rep.under a _ h1, Reps.under as _ h2⟩
theorem Els.under {w g n} : ∀ (es : List AV) (b off k : Nat), Els w g n es b off k → unders n es = true
  | [], _, _, _, _ => by simp [unders]
  | e :: es, b, off, k, h => by
    simp only [Els] at h
    obtain ⟨⟨v, h1, h2, h3⟩, h4⟩ := h
    simp only [unders, Bool.and_eq_true]
    exact ⟨Rep.under e _ h1, Els.under es _ _ _ h4⟩
end

def AObj.uses (n : Nat) : AObj → Bool
  | .cells l => unders n l
  | .map _ es => unders n (es.map (·.2))
  | .gone => true
def Closed (h : List AObj) : Prop := ∀ o, o ∈ h → AObj.uses h.length o = true

theorem unders_of {n : Nat} : ∀ {l : List AV}, (∀ av, av ∈ l → AV.under n av = true) → unders n l = true
  | [], _ => rfl
  | a :: l, h => by simp only [unders, Bool.and_eq_true]; exact ⟨h a (by simp), unders_of fun x hx => h x (by simp [hx])⟩
theorem unders_get {n : Nat} : ∀ {l : List AV}, unders n l = true → ∀ {j : Nat} {av : AV}, l[j]? = some av → AV.under n av = true
  | [], _, j, av, h => by simp at h
  | a :: l, hb, j, av, h => by
    simp only [unders, Bool.and_eq_true] at hb
    cases j with
    | zero => simp at h; subst h; exact hb.1
    | succ j => simp at h; exact unders_get hb.2 h

theorem HeapOk.closed {w g h} (hh : HeapOk w g h) : Closed h := by
  intro o hl
  obtain ⟨id, hid⟩ := List.getElem?_of_mem hl
  cases o with
  | gone => rfl
  | map kk es =>
    obtain ⟨en, clock, q1, q2, q3, q4, q5⟩ := hh.map id kk es hid
    exact Reps.under _ _ q4
  | cells l =>
  obtain ⟨vs, e, hc⟩ := hh.cells id l hid
  refine unders_of fun av hav => ?_
  obtain ⟨j, hj⟩ := List.getElem?_of_mem hav
  obtain ⟨v, _, h2, _⟩ := hc.rep j av hj
  exact Rep.under av v h2

theorem HeapOk.fewer {w g h j} (hh : HeapOk w g (h ++ j)) (hc : Closed h) : HeapOk w g h := by
  refine HeapOk.mk' (fun id l hl => ?_) fun id kk es hl => ?_
  rotate_left
  · obtain ⟨en, clock, q1, q2, q3, q4, q5⟩ := hh.map id kk es (by rw [List.getElem?_append_left (List.getElem?_eq_some_iff.1 hl).1]; exact hl)
    exact ⟨en, clock, q1, q2, q3, Reps.fewer _ _ (hc _ (List.mem_of_getElem? hl)) q4, q5⟩
  have hlt : id < h.length := by
    rcases Nat.lt_or_ge id h.length with h' | h'
    · exact h'
    · rw [List.getElem?_eq_none h'] at hl; cases hl
  obtain ⟨vs, e, hcell⟩ := hh.cells id l (by rw [List.getElem?_append_left hlt]; exact hl)
  have hb : unders h.length l = true := hc _ (List.mem_of_getElem? hl)
  refine ⟨vs, e, hcell.blk, hcell.own, hcell.size, fun jj av hj => ?_, hcell.bp, hcell.buf⟩
  obtain ⟨v, h1, h2, h3⟩ := hcell.rep jj av hj
  have hbv := unders_get hb hj
  refine ⟨v, h1, Rep.fewer av v hbv h2, ?_⟩
  cases av <;> try exact trivial
  rename_i c es
  cases c <;> try exact trivial
  rename_i k
  cases v <;> try exact trivial
  rename_i a len cap
  cases a <;> try exact trivial
  simp only [SpareOk] at h3 ⊢
  exact ⟨h3.1, Els.fewer _ _ _ _ (by simpa [AV.under] using hbv) h3.2.1, h3.2.2⟩

inductive ARV where
  | tmp (t : Nat) | cell (t : Nat) (n : Option Nat)

def crv (P : Program) : ResultVar → Option ARV
  | .tmp t => some (.tmp t)
  | .cell a t => (aggN P t).map (.cell a)

def crvs (P : Program) : List ResultVar → Option (List ARV)
  | [] => some []
  | r :: rs => match crv P r, crvs P rs with | some x, some l => some (x :: l) | _, _ => none

def rv (σ : ASt) : ARV → (AV → Prop) → Prop
  | .tmp t, K => K (look σ.tmps t).strip
  | .cell t n, K => (match look σ.tmps t with
    | .ref id off => (match σ.heap[id]? with
      | some (.cells l) => (match n with
        | none => (match l[off]? with | some v => K v.strip | none => False)
        | some n => off + n ≤ l.length ∧ K (.agg (((l.drop off).take n).map AV.strip)))
      | _ => False)
    | _ => False)

def rvs (σ : ASt) : List ARV → (List AV → Prop) → Prop
  | [], K => K []
  | r :: rs, K => rv σ r fun v => rvs σ rs fun vs => K (v :: vs)

def resv (σ : ASt) (rs : List ARV) (K : AV → Prop) : Prop := rvs σ rs fun vs => match vs with | [v] => K v | vs => K (.tup vs)

def rvRun (ts : Array Value) : ResultVar → Sem Value
  | .tmp t => pure (ts.getD t undef)
  | .cell a t => do loadVar t (← asAddr (ts.getD a undef))

theorem rv_sound {P : Program} {w : World} {g : Gh} {σ : ASt} {ts : Array Value} {r : ResultVar} {ar : ARV} {K : AV → Prop} (hc : crv P r = some ar) (ht : TmpsOk w g σ.heap.length σ.tmps ts) (hh : HeapOk w g σ.heap) (hv : rv σ ar K) :
    ∃ v av, (rvRun ts r).run P w = .ok v w ∧ Rep w g σ.heap.length av v ∧ K av := by
  cases r with
  | tmp t => simp only [crv] at hc; cases hc; exact ⟨_, _, rfl, (ht t).1.strip, hv⟩
  | cell a t =>
    simp only [crv, Option.map_eq_some_iff] at hc
    obtain ⟨n, hn, rfl⟩ := hc
    have hr := (ht a).1
    simp only [rv] at hv
    split at hv
    · rename_i id off hl
      have hv' : vop σ.heap (fun _ => look σ.tmps a) (.load n (.tmp a)) K := by
        simp only [vop, hl]
        exact hv
      obtain ⟨v, av, h1, h2, _, h4⟩ := sound_load (P := P) (w := w) (g := g) (ρ := fun _ => ts.getD a undef) hn hr hh hv'
      refine ⟨v, av, ?_, h2, h4⟩
      rw [hl] at hr
      simp only [Rep] at hr
      simp only [rvRun]
      rw [hr.1] at h1 ⊢
      simp only [Instr.loadAt, Instr.sureAddr, Sem.run_bind, Sem.run_pure, Result.andThen_ok] at h1
      simp only [asAddr, Sem.run_bind, Sem.run_pure, Result.andThen_ok]
      revert h1
      generalize (loadVar t { block := g.loc id, off := off }).run P w = r
      intro h1
      cases r with
      | ok u w' => simp only [Result.andThen_ok] at h1; cases h1; rfl
      | halt x w' => cases h1
    · exact hv.elim

theorem rvs_sound {P : Program} {w : World} {g : Gh} {σ : ASt} {ts : Array Value} (ht : TmpsOk w g σ.heap.length σ.tmps ts) (hh : HeapOk w g σ.heap) : ∀ (rs : List ResultVar) (ars : List ARV) (K : List AV → Prop), crvs P rs = some ars → rvs σ ars K →
    ∃ vs avs, (rs.mapM (rvRun ts)).run P w = .ok vs w ∧ Reps w g σ.heap.length avs vs ∧ K avs
  | [], ars, K, hc, hv => by simp only [crvs] at hc; cases hc; exact ⟨[], [], by simp, by simp [Reps], hv⟩
  | r :: rs, ars, K, hc, hv => by
    simp only [crvs] at hc
    split at hc
    · rename_i x l hx hl
      cases hc
      simp only [rvs] at hv
      obtain ⟨v, av, h1, h2, h3⟩ := rv_sound hx ht hh hv
      obtain ⟨vs, avs, h4, h5, h6⟩ := rvs_sound ht hh rs l _ hl h3
      exact ⟨v :: vs, av :: avs, by simp [List.mapM_cons, h1, h4], Reps.cons'.2 ⟨h2, h5⟩, h6⟩
    · cases hc

theorem resv_sound {P : Program} {w : World} {g : Gh} {σ : ASt} {ts : Array Value} {fn : Func} {ars : List ARV} {K : AV → Prop} (hc : crvs P fn.results.toList = some ars) (ht : TmpsOk w g σ.heap.length σ.tmps ts) (hh : HeapOk w g σ.heap)
    (hv : resv σ ars K) : ∃ v av, (results fn ts).run P w = .ok v w ∧ Rep w g σ.heap.length av v ∧ K av := by
  obtain ⟨vs, avs, h1, h2, h3⟩ := rvs_sound ht hh _ _ _ hc hv
  have hm : (fn.results.mapM (rvRun ts)).run P w = .ok vs.toArray w := by
    rw [Array.mapM_eq_mapM_toList]
    simp [h1]
  have hres : (results fn ts).run P w = .ok (if h : vs.toArray.size = 1 then vs.toArray[0] else .tuple vs.toArray) w := by
    have : results fn ts = (do let vs ← fn.results.mapM (rvRun ts); pure (if h : vs.size = 1 then vs[0] else .tuple vs)) := by
      unfold results
      congr 1
    rw [this]
    simp [hm]
  rw [hres]
  match vs, avs, h2, h3 with
  | [], [], h2, h3 => exact ⟨_, .tup [], rfl, by simp only [Rep]; exact ⟨#[], rfl, by simp [Reps]⟩, h3⟩
  | [v], [av], h2, h3 => exact ⟨_, av, rfl, (Reps.cons'.1 h2).1, h3⟩
  | v :: v' :: vs, av :: av' :: avs, h2, h3 => exact ⟨_, .tup (av :: av' :: avs), rfl, by simp only [Rep]; exact ⟨(v :: v' :: vs).toArray, by simp, by simpa using h2⟩, h3⟩
  | [], av :: avs, h2, _ => exact absurd h2.length (by simp)
  | v :: vs, [], h2, _ => exact absurd h2.length (by simp)
  | [v], av :: av' :: avs, h2, _ => exact absurd h2.length (by simp)
  | v :: v' :: vs, [av], h2, _ => exact absurd h2.length (by simp)

def fnPost (n0 : Nat) (ars : List ARV) (Q : ARes → List AObj → Prop) (e : AEx) (σ : ASt) : Prop :=
  match e with
  | .normal | .ret => resv σ ars fun v => ∃ h1 junk, σ.heap = h1 ++ junk ∧ n0 ≤ h1.length ∧ (Closed σ.heap → AV.under σ.heap.length v = true → Closed h1 ∧ AV.under h1.length v = true) ∧ Q (.ret v) h1
  | .panic v => ∃ h1 junk, σ.heap = h1 ++ junk ∧ n0 ≤ h1.length ∧ (Closed σ.heap → AV.under σ.heap.length v = true → Closed h1 ∧ AV.under h1.length v = true) ∧ Q (.panic v) h1
  | _ => False

def numbered : Nat → List AV → List (Nat × AV)
  | _, [] => []
  | i, a :: as => (i, a) :: numbered (i + 1) as

theorem look_numbered : ∀ (as : List AV) (k i : Nat), look (numbered k as) (k + i) = (as[i]?).getD .any
  | [], k, i => by simp [numbered, look]
  | a :: as, k, 0 => by simp [numbered, look]
  | a :: as, k, i + 1 => by
    simp only [numbered, look]
    rw [if_neg (by omega)]
    have := look_numbered as (k + 1) i
    rw [show k + (i + 1) = k + 1 + i by omega, this]
    simp
theorem ev_of_awp {E : Env} {f : FuncId} {fn : Func} {c : Code} {ac : ACode} {hs : Hints} {ars : List ARV} {args : List AV} {h : List AObj} {Q : ARes → List AObj → Prop}
    (hf : E.P.funcs[f]? = some fn) (hn : (fn.name == "runtime.NumGoroutine") = false) (hb : fn.body = some c) (hc : comp E.P fn.ntmps hs c = some ac) (hr : crvs E.P fn.results.toList = some ars) (hnt : args.length ≤ fn.ntmps)
    (hv : Closed h → awp E ac (fnPost h.length ars Q) { tmps := numbered 0 args, heap := h }) : Ev E f args h Q := by
  intro w g vs hg hgl hh ha
  refine .inl ⟨?_, ?_⟩
  · simp only [callFunc, Sem.run_bind, run_program, Result.andThen_ok, hf, hn, hb]
    rfl
  · refine calls_of_wp hf hb ?_
    let B : Base := { nt := fn.ntmps, w0 := w, g0 := g, n0 := h.length }
    have hR : RA E B { tmps := numbered 0 args, heap := h } { tmps := vs ++ Array.replicate (fn.ntmps - vs.size) undef, defers := [] } w g := by
      refine ⟨?_, hg, hgl, fun i => ?_, hh, Stable.refl _ _ _, Nat.le_refl _, rfl⟩
      · simp [ha.1, B]; omega
      · have hl := look_numbered args 0 i
        rw [Nat.zero_add] at hl
        simp only [hl]
        cases hai : args[i]? with
        | none => exact ⟨by simp [Rep], trivial⟩
        | some av =>
          obtain ⟨v, h1, h2, h3⟩ := ha.2 i av hai
          have hlt : i < vs.size := (Array.getElem?_eq_some_iff.1 h1).1
          have : (vs ++ Array.replicate (fn.ntmps - vs.size) undef).getD i undef = v := by
            rw [Array.getD_eq_getD_getElem?, Array.getElem?_append_left hlt, h1]; rfl
          rw [this]
          exact ⟨h2, h3⟩
    refine wp_mono (awp_sound (B := B) c ac hs _ _ hc (hv hh.closed) _ w g hR) ?_
    rintro e a w' ⟨ae, σ', g', hq, he, hR'⟩
    have fin : ∀ (v : Value) (av : AV) (h1 junk : List AObj), Rep w' g' σ'.heap.length av v → σ'.heap = h1 ++ junk → (Closed σ'.heap → AV.under σ'.heap.length av = true → Closed h1 ∧ AV.under h1.length av = true) → h.length ≤ h1.length →
        Rep w' g' h1.length av v ∧ GOk w' g' ∧ GlOk E w' g' ∧ HeapOk w' g' h1 ∧ Stable w g h.length w' g' ∧ h.length ≤ h1.length := by
      intro v av h1 junk hr hh1 hcu hle
      obtain ⟨hcl, hu⟩ := hcu hR'.heap.closed (Rep.under _ _ hr)
      exact ⟨Rep.fewer av v hu hr, hR'.gok, hR'.gl, HeapOk.fewer (j := junk) (by rw [← hh1]; exact hR'.heap) hcl, hR'.st, hle⟩
    have hret : resv σ' ars (fun v => ∃ h1 junk, σ'.heap = h1 ++ junk ∧ h.length ≤ h1.length ∧ (Closed σ'.heap → AV.under σ'.heap.length v = true → Closed h1 ∧ AV.under h1.length v = true) ∧ Q (.ret v) h1) →
        a.defers = [] ∧ ∃ v, (results fn a.tmps).run E.P w' = .ok v w' ∧ ∃ r h' g', Q r h' ∧ EndRel w' g' h'.length r (.returned v) ∧ GOk w' g' ∧ GlOk E w' g' ∧ HeapOk w' g' h' ∧ Stable w g h.length w' g' ∧ h.length ≤ h'.length := by
      intro hq
      obtain ⟨v, av, h1, h2, hh1, junk, h3, h4, h5, h7⟩ := resv_sound hr hR'.tmps hR'.heap hq
      obtain ⟨k1, k2⟩ := fin v av hh1 junk h2 h3 h5 h4
      exact ⟨hR'.defers, v, h1, .ret av, hh1, g', h7, ⟨v, rfl, k1⟩, k2⟩
    cases ae with
    | normal => cases he; exact hret hq
    | ret => cases he; exact hret hq
    | exit id => exact hq.elim
    | panic av =>
      obtain ⟨v, rfl, hrv⟩ := he
      obtain ⟨hh1, junk, h3, h4, h5, h7⟩ := hq
      obtain ⟨k1, k2⟩ := fin v av hh1 junk hrv h3 h5 h4
      exact ⟨hR'.defers, .panic av, hh1, g', h7, ⟨v, rfl, k1⟩, k2⟩

def cfn (P : Program) (hs : Hints) (fn : Func) : Option (ACode × List ARV × Nat) :=
  if fn.name == "runtime.NumGoroutine" then none else
  match fn.body with
  | none => none
  | some c => match comp P fn.ntmps hs c, crvs P fn.results.toList with
    | some ac, some ars => some (ac, ars, fn.ntmps)
    | _, _ => none

theorem ev_of {E : Env} {f : FuncId} {fn : Func} {hs : Hints} {ac : ACode} {ars : List ARV} {nt : Nat} (hf : E.P.funcs[f]? = some fn) (hc : cfn E.P hs fn = some (ac, ars, nt))
    {args : List AV} {h : List AObj} {Q : ARes → List AObj → Prop} (hnt : args.length ≤ nt)
    (hv : Closed h → awp E ac (fnPost h.length ars Q) { tmps := numbered 0 args, heap := h }) : Ev E f args h Q := by
  unfold cfn at hc
  split at hc
  · cases hc
  · rename_i hn
    split at hc
    · cases hc
    · rename_i c hb
      split at hc
      · rename_i ac' ars' h1 h2
        cases hc
        exact ev_of_awp hf (by simpa using hn) hb h1 h2 hnt hv
      · cases hc

end Go.Abs

namespace Go.Abs
open Go Go.RowKit

inductive Tag {α : Type} (a : α) : Type where
  | t

def BrF (b : Bool) (A B : Prop) (_ : Tag A) (_ : Tag B) : Prop := (b = true → A) ∧ (b = false → B)
def Need (P : Prop) (A : Prop) (_ : Tag A) : Prop := P ∧ A
def awpF (E : Env) (c : ACode) (Q : AEx → ASt → Prop) (_ : Tag c) (_ : Tag Q) (σ : ASt) : Prop := awp E c Q σ
def aopsF (E : Env) (K : ASt → Prop) (Q : AEx → ASt → Prop) (ops : List AOper) (_ : Tag K) (_ : Tag Q) (_ : Tag ops) (σ : ASt) : Prop := aops E K Q ops σ
def adrawF (E : Env) (K : ASt → Prop) (ops : List AOper) (_ : Tag K) (_ : Tag ops) (σ : ASt) : Prop := adraw E K ops σ
def aopF (E : Env) (σ : ASt) (d : Option Nat) (K : ASt → Prop) (Q : AEx → ASt → Prop) (o : AOp) (_ : Tag K) (_ : Tag Q) (_ : Tag o) : Prop := aop E σ d K Q o
def adopF (E : Env) (σ : ASt) (o : AOp) (K : AV → Prop) (_ : Tag o) (_ : Tag K) : Prop := adop E σ.heap (σ.ev E) o K
def vF (E : Env) (σ : ASt) (o : AOp) (K : AV → Prop) (_ : Tag o) (_ : Tag K) : Prop := vop σ.heap (σ.ev E) o K
def binF (op : BinOp) (u v : Value) (K : Value → Prop) (_ : Tag K) : Prop := binW op u v K
def EvF (E : Env) (f : FuncId) (args : List AV) (h : List AObj) (Q : ARes → List AObj → Prop) (_ : Tag Q) : Prop := Ev E f args h Q
def EvRF (E : Env) (f : FuncId) (args : List AV) (h : List AObj) (K : AV → Prop) (_ : Tag K) : Prop := ∃ v, EvR E f args h v ∧ K v.strip
def rvsF (σ : ASt) (rs : List ARV) (K : List AV → Prop) (_ : Tag K) : Prop := rvs σ rs K
def LoopF (E : Env) (c : ACode) (Q : AEx → ASt → Prop) (_ : Tag c) (_ : Tag Q) (σ : ASt) : Prop := awp E (.loop c) Q σ

def mBool (v : AV) (K : Bool → Prop) (_ : Tag K) : Prop := match v with | .lit (.bool b) => K b | _ => False
def mInt (v : AV) (K : IntKind → Int → Prop) (_ : Tag K) : Prop := match v with | .lit (.int k n) => K k n | _ => False
def mStr (v : AV) (K : ByteArray → Prop) (_ : Tag K) : Prop := match v with | .lit (.string s) => K s | _ => False
def mLit (v : AV) (K : Value → Prop) (_ : Tag K) : Prop := match v with | .lit u => K u | _ => False
def mAgg (v : AV) (K : List AV → Prop) (_ : Tag K) : Prop := match v with | .agg u => K u | _ => False
def mTup (v : AV) (K : List AV → Prop) (_ : Tag K) : Prop := match v with | .tup u => K u | _ => False
def mFn (v : AV) (K : FuncId → List AV → List AV → Prop) (_ : Tag K) : Prop := match v with | .fn (.func f) a b => K f a b | _ => False
def mIfc (v : AV) (K : TypeId → AV → Prop) (_ : Tag K) : Prop := match v with | .ifc t u => K t u | _ => False
def mSl (v : AV) (K : Cap → List AV → Prop) (K' : Nat → Nat → Nat → Nat → Prop) (_ : Tag K) (_ : Tag K') : Prop := match v with | .sl c es => K c es | .vw a b c d => K' a b c d | _ => False
def mPtr (v : AV) (K : Nat → Nat → Prop) (K' : List AV → Prop) (_ : Tag K) (_ : Tag K') : Prop := match v with | .ref a b => K a b | .cp cs => K' cs | _ => False
def mOpt (v : Option AV) (K : AV → Prop) (_ : Tag K) : Prop := match v with | some u => K u | none => False
def mObj (v : Option AObj) (K : List AV → Prop) (_ : Tag K) : Prop := match v with | some (.cells u) => K u | _ => False
def mLst (v : Option (List AV)) (K : List AV → Prop) (_ : Tag K) : Prop := match v with | some u => K u | none => False
def mByt (v : Option (List UInt8)) (K : List UInt8 → Prop) (_ : Tag K) : Prop := match v with | some u => K u | none => False
def mNil (v : AV) (K : AV → Prop) (_ : Tag K) : Prop := match v with | .ref id off => K (.ref id off) | .cp cs => K (.cp cs) | .fn (.func f) a b => K (.fn (.func f) a b) | .ifc t v => K (.ifc t v) | _ => False
def mOb (a : Option Bool) (K : Bool → Prop) (_ : Tag K) : Prop := match a with | some b => K b | none => False
def mNn (a b : Option Bool) (K : Bool → Prop) (_ : Tag K) : Prop := match a, b with | some true, some b => K b | some false, some true => K false | _, _ => False
def Elem (es : List AV) (n : Nat) (F : AV → Prop) (_ : Tag F) : Prop := ∀ e, es[n]? = some e → F e
def ElemT {α : Type} (es : List α) (n : Nat) (F : α → Prop) (_ : Tag F) : Prop := ∀ e, es[n]? = some e → F e
def Byte (s : ByteArray) (n : Nat) (F : UInt8 → Prop) (_ : Tag F) : Prop := ∀ e, s[n]? = some e → F e
def mGd (g : GuardIs) (K : Bool → Prop) (K' : Prop) (_ : Tag K) (_ : Tag K') : Prop := match g with | .yes b => K b | .never => K' | .unknown => False

theorem BrF.mk {b : Bool} {A B : Prop} {s t} (h : b = true → A) (h' : b = false → B) : BrF b A B s t := ⟨h, h'⟩
theorem Need.mk {P A : Prop} {t} (h : P) (h' : A) : Need P A t := ⟨h, h'⟩
theorem EvF.use {E : Env} {f args h} {Q Q' : ARes → List AObj → Prop} {t} (hh : Ev E f args h Q) (hq : ∀ r h', Q r h' → Q' r h') : EvF E f args h Q' t := hh.mono hq
theorem EvF.ret {E : Env} {f args h v} {Q' : ARes → List AObj → Prop} {t} (hh : EvR E f args h v) (hq : Q' (.ret v) h) : EvF E f args h Q' t := hh.mono fun r h' ⟨h1, h2⟩ => by subst h1 h2; exact hq
theorem EvRF.ret {E : Env} {f args h v} {K : AV → Prop} {t} (hh : EvR E f args h v) (hq : K v.strip) : EvRF E f args h K t := ⟨v, hh, hq⟩

def Fin (h : List AObj) (n : Nat) (v : AV) (Q : ARes → List AObj → Prop) (_ : Tag Q) : Prop := ∃ h1 junk, h = h1 ++ junk ∧ n ≤ h1.length ∧ (Closed h → AV.under h.length v = true → Closed h1 ∧ AV.under h1.length v = true) ∧ Q (.ret v) h1
def FinP (h : List AObj) (n : Nat) (v : AV) (Q : ARes → List AObj → Prop) (_ : Tag Q) : Prop := ∃ h1 junk, h = h1 ++ junk ∧ n ≤ h1.length ∧ (Closed h → AV.under h.length v = true → Closed h1 ∧ AV.under h1.length v = true) ∧ Q (.panic v) h1
def FinS (vs : List AV) (K : AV → Prop) (_ : Tag K) : Prop := match vs with | [v] => K v | vs => K (.tup vs)

theorem Fin.same {h junk : List AObj} {v : AV} {Q : ARes → List AObj → Prop} {t} (hc : Closed h) (hu : AV.under h.length v = true) (hq : Q (.ret v) h) : Fin (h ++ junk) h.length v Q t := ⟨h, junk, rfl, Nat.le_refl _, fun _ _ => ⟨hc, hu⟩, hq⟩
theorem Fin.same0 {h : List AObj} {v : AV} {Q : ARes → List AObj → Prop} {t} (hc : Closed h) (hu : AV.under h.length v = true) (hq : Q (.ret v) h) : Fin h h.length v Q t := ⟨h, [], by simp, Nat.le_refl _, fun _ _ => ⟨hc, hu⟩, hq⟩
theorem Fin.all {h : List AObj} {n : Nat} {v : AV} {Q : ARes → List AObj → Prop} {t} (hn : n ≤ h.length) (hq : Q (.ret v) h) : Fin h n v Q t := ⟨h, [], by simp, hn, fun hc hu => ⟨hc, hu⟩, hq⟩

theorem aw1 :
    (∀ A B s t, BrF true A B s t = A) ∧ (∀ A B s t, BrF false A B s t = B) ∧ (∀ A t, Need True A t = A) ∧
    (∀ (E : Env) c Q σ, awp E c Q σ = awpF E c Q .t .t σ) ∧
    (∀ (E : Env) Q s t σ, awpF E .skip Q s t σ = Q .normal σ) ∧
    (∀ (E : Env) ops Q s t σ, awpF E (.region ops) Q s t σ = aopsF E (Q .normal) Q ops .t .t .t σ) ∧
    (∀ (E : Env) ops Q s t σ, awpF E (.draw ops) Q s t σ = adrawF E (Q .normal) ops .t .t σ) ∧
    (∀ (E : Env) x y Q s t σ, awpF E (.seq x y) Q s t σ = awpF E x (thenQ (awp E y Q) Q) .t .t σ) ∧
    (∀ (E : Env) c x y Q s t σ, awpF E (.cond c x y) Q s t σ = mBool (ASt.ev E σ c) (fun b => BrF b (awp E x Q σ) (awp E y Q σ) .t .t) .t) ∧
    (∀ (E : Env) id c Q s t σ, awpF E (.block id c) Q s t σ = awpF E c (blockQ id Q) .t .t σ) ∧
    (∀ (E : Env) c Q s t σ, awpF E (.loop c) Q s t σ = LoopF E c Q .t .t σ) ∧
    (∀ (E : Env) id Q s t σ, awpF E (.exit id) Q s t σ = Q (.exit id) σ) ∧
    (∀ (E : Env) Q s t σ, awpF E .ret Q s t σ = Q .ret σ) ∧
    (∀ K Q σ, thenQ K Q .normal σ = K σ) ∧ (∀ K Q id σ, thenQ K Q (.exit id) σ = Q (.exit id) σ) ∧ (∀ K Q σ, thenQ K Q .ret σ = Q .ret σ) ∧ (∀ K Q v σ, thenQ K Q (.panic v) σ = Q (.panic v) σ) ∧
    (∀ id Q σ, blockQ id Q .normal σ = Q .normal σ) ∧ (∀ id Q id' σ, blockQ id Q (.exit id') σ = if id' = id then Q .normal σ else Q (.exit id') σ) ∧ (∀ id Q σ, blockQ id Q .ret σ = Q .ret σ) ∧ (∀ id Q v σ, blockQ id Q (.panic v) σ = Q (.panic v) σ) := by
  refine ⟨?_, ?_, ?_, ?_⟩
  · intro A B s t; simp [BrF]
  · intro A B s t; simp [BrF]
  · intro A t; simp [Need]
  refine ⟨fun _ _ _ _ => rfl, fun _ _ _ _ _ => rfl, fun _ _ _ _ _ _ => rfl, fun _ _ _ _ _ _ => rfl, fun _ _ _ _ _ _ _ => rfl, ?_, fun _ _ _ _ _ _ _ => rfl, fun _ _ _ _ _ _ => rfl, fun _ _ _ _ _ _ => rfl, fun _ _ _ _ _ => rfl, fun _ _ _ => rfl, fun _ _ _ _ => rfl, fun _ _ _ => rfl, fun _ _ _ _ => rfl,
    fun _ _ _ => rfl, fun _ _ _ _ => rfl, fun _ _ _ => rfl, fun _ _ _ _ => rfl⟩
  intro E c x y Q s t σ
  simp only [awpF, awp, mBool]
  cases ASt.ev E σ c with
  | lit v => cases v <;> rfl
  | _ => rfl

theorem aw2 :
    (∀ (E : Env) K Q l σ, aops E K Q l σ = aopsF E K Q l .t .t .t σ) ∧
    (∀ (E : Env) K Q r s t σ, aopsF E K Q [] r s t σ = K σ) ∧
    (∀ (E : Env) K Q d op rest r s t σ, aopsF E K Q (⟨d, op, none⟩ :: rest) r s t σ = aopF E σ d (fun σ' => aops E K Q rest σ') Q op .t .t .t) ∧
    (∀ (E : Env) K Q d op u want rest r s t σ, aopsF E K Q (⟨d, op, some (u, want)⟩ :: rest) r s t σ = mGd (guardIs (look σ.tmps u))
      (fun b => BrF (b == want) (aop E σ d (fun σ' => aops E K Q rest σ') Q op) (aops E K Q rest (σ.putO d (.lit undef))) .t .t)
      (aops E K Q rest (σ.putO d (.lit undef))) .t .t) ∧
    (∀ (E : Env) K l σ, adraw E K l σ = adrawF E K l .t .t σ) ∧
    (∀ (E : Env) K r s σ, adrawF E K [] r s σ = K σ) ∧
    (∀ (E : Env) K d op rest r s σ, adrawF E K (⟨d, op, none⟩ :: rest) r s σ = adopF E σ op (fun v => adraw E K rest (σ.putO d v)) .t .t) ∧
    (∀ (E : Env) K d op u want rest r s σ, adrawF E K (⟨d, op, some (u, want)⟩ :: rest) r s σ = mGd (guardIs (look σ.tmps u))
      (fun b => BrF (b == want) (adop E σ.heap (σ.ev E) op fun v => adraw E K rest (σ.putO d v)) (adraw E K rest (σ.putO d (.lit undef))) .t .t)
      (adraw E K rest (σ.putO d (.lit undef))) .t .t) ∧
    (∀ (E : Env) σ d K Q o, aop E σ d K Q o = aopF E σ d K Q o .t .t .t) ∧
    (∀ (E : Env) t h K o, adop E h (ASt.ev E ⟨t, h⟩) o K = adopF E ⟨t, h⟩ o K .t .t) ∧
    (∀ b K K' s t, mGd (.yes b) K K' s t = K b) ∧ (∀ K K' s t, mGd .never K K' s t = K') := by
  refine ⟨fun _ _ _ _ _ => rfl, fun _ _ _ _ _ _ _ => rfl, fun _ _ _ _ _ _ _ _ _ _ => rfl, ?_, fun _ _ _ _ => rfl, fun _ _ _ _ _ => rfl, fun _ _ _ _ _ _ _ _ => rfl, ?_, fun _ _ _ _ _ _ => rfl, fun _ _ _ _ _ => rfl, fun _ _ _ _ _ => rfl, fun _ _ _ _ => rfl⟩
  · intro E K Q d op u want rest r s t σ
    simp only [aopsF, aops, mGd]
    cases guardIs (look σ.tmps u) <;> rfl
  · intro E K d op u want rest r s σ
    simp only [adrawF, adraw, mGd]
    cases guardIs (look σ.tmps u) <;> rfl

theorem aw3 :
    (∀ n ars Q σ, fnPost n ars Q .ret σ = rvsF σ ars (fun vs => FinS vs (fun v => Fin σ.heap n v Q .t) .t) .t) ∧
    (∀ n ars Q σ, fnPost n ars Q .normal σ = rvsF σ ars (fun vs => FinS vs (fun v => Fin σ.heap n v Q .t) .t) .t) ∧
    (∀ n ars Q v σ, fnPost n ars Q (.panic v) σ = FinP σ.heap n v Q .t) ∧
    (∀ σ K t, rvsF σ [] K t = K []) ∧ (∀ σ u rs K t, rvsF σ (.tmp u :: rs) K t = rvsF σ rs (fun vs => K ((look σ.tmps u).strip :: vs)) .t) ∧
    (∀ v K t, FinS [v] K t = K v) ∧ (∀ K t, FinS [] K t = K (.tup [])) ∧ (∀ v v' vs K t, FinS (v :: v' :: vs) K t = K (.tup (v :: v' :: vs))) ∧
    (∀ i a as, numbered i (a :: as) = (i, a) :: numbered (i + 1) as) ∧ (∀ i, numbered i [] = []) := by
  refine ⟨?_, ?_, fun _ _ _ _ _ => rfl, fun _ _ _ => rfl, fun _ _ _ _ _ => rfl, fun _ _ _ => rfl, fun _ _ => rfl, fun _ _ _ _ _ => rfl, fun _ _ _ => rfl, fun _ => rfl⟩ <;> (intro n ars Q σ; rfl)

theorem aw4 :
    (∀ t h i v, ASt.putO ⟨t, h⟩ (some i) v = ⟨(i, v) :: t, h⟩) ∧ (∀ σ v, ASt.putO σ none v = σ) ∧ (∀ t h i v, ASt.put ⟨t, h⟩ i v = ⟨(i, v) :: t, h⟩) ∧
    (∀ i v l j, look ((i, v) :: l) j = if i = j then v else look l j) ∧ (∀ j, look [] j = .any) ∧
    (∀ (E : Env) σ t, ASt.ev E σ (.tmp t) = (look σ.tmps t).strip) ∧ (∀ (E : Env) σ v, ASt.ev E σ (.const v) = ofConst v) ∧ (∀ (E : Env) σ f, ASt.ev E σ (.func f) = .fn (.func f) [] []) ∧
    (∀ k n, ofConst (.int k n) = .lit (.int k n)) ∧ (∀ b, ofConst (.bool b) = .lit (.bool b)) ∧ (∀ s, ofConst (.string s) = .lit (.string s)) ∧ (ofConst (.slice none 0 0) = .sl .full []) ∧
    (ofConst .nilIface = .lit .nilIface) ∧ (ofConst .nilFunc = .lit .nilFunc) ∧ (ofConst (.pointer none) = .lit (.pointer none)) ∧ (ofConst (.map none) = .lit (.map none)) ∧ (∀ cs, ofConst (.agg cs) = .agg (cs.toList.map ofCell)) ∧
    (∀ v, AV.strip (.lit v) = .lit v) ∧ (∀ v, AV.strip (.agg v) = .agg v) ∧ (∀ v, AV.strip (.tup v) = .tup v) ∧ (∀ v, AV.strip (.cp v) = .cp v) ∧ (∀ a b, AV.strip (.ref a b) = .ref a b) ∧ (∀ a b c d, AV.strip (.vw a b c d) = .vw a b c d) ∧
    (∀ a b c, AV.strip (.fn a b c) = .fn a b c) ∧ (∀ a b, AV.strip (.ifc a b) = .ifc a b) ∧ (AV.strip .any = .any) ∧ (∀ es, AV.strip (.sl .unk es) = .sl .unk es) ∧ (∀ es, AV.strip (.sl .full es) = .sl .full es) ∧ (∀ k es, AV.strip (.sl (.own k) es) = .sl .unk es) ∧
    (∀ b, guardIs (.lit (.bool b)) = .yes b) ∧ (∀ v, guardIs (.lit (.tuple v)) = .never) ∧ (undef = .tuple #[]) ∧
    (∀ k n, ofCell (.int k n) = .lit (.int k n)) ∧ (∀ b, ofCell (.bool b) = .lit (.bool b)) ∧ (∀ s, ofCell (.string s) = .lit (.string s)) ∧ (ofCell (.slice none 0 0) = .sl .full []) ∧
    (∀ cs, AV.cells (.agg cs) = cs) ∧ (∀ v, AV.cells (.lit v) = [.lit v]) ∧ (∀ c v, AV.cells (.sl c v) = [.sl c v]) ∧ (∀ a b, AV.cells (.ref a b) = [.ref a b]) ∧ (∀ a b c, AV.cells (.fn a b c) = [.fn a b c]) := by
  refine ⟨fun _ _ _ _ => rfl, fun _ _ => rfl, fun _ _ _ _ => rfl, fun _ _ _ _ => rfl, fun _ => rfl, fun _ _ _ => rfl, fun _ _ _ => rfl, fun _ _ _ => rfl, fun _ _ => rfl, fun _ => rfl, fun _ => rfl, rfl, rfl, rfl, rfl, rfl, fun _ => rfl,
    fun _ => rfl, fun _ => rfl, fun _ => rfl, fun _ => rfl, fun _ _ => rfl, fun _ _ _ _ => rfl, fun _ _ _ => rfl, fun _ _ => rfl, rfl, fun _ => rfl, fun _ => rfl, fun _ _ => rfl, fun _ => rfl, fun _ => rfl, rfl, fun _ _ => rfl, fun _ => rfl, fun _ => rfl, rfl,
    fun _ => rfl, fun _ => rfl, fun _ _ => rfl, fun _ _ => rfl, fun _ _ _ => rfl⟩

theorem aw5 :
    (∀ b K t, mBool (.lit (.bool b)) K t = K b) ∧ (∀ k n K t, mInt (.lit (.int k n)) K t = K k n) ∧ (∀ s K t, mStr (.lit (.string s)) K t = K s) ∧ (∀ v K t, mLit (.lit v) K t = K v) ∧ (∀ v K t, mAgg (.agg v) K t = K v) ∧ (∀ v K t, mTup (.tup v) K t = K v) ∧
    (∀ f a b K t, mFn (.fn (.func f) a b) K t = K f a b) ∧ (∀ a b K t, mIfc (.ifc a b) K t = K a b) ∧ (∀ c es K K' s t, mSl (.sl c es) K K' s t = K c es) ∧ (∀ a b c d K K' s t, mSl (.vw a b c d) K K' s t = K' a b c d) ∧
    (∀ a b K K' s t, mPtr (.ref a b) K K' s t = K a b) ∧ (∀ a K K' s t, mPtr (.cp a) K K' s t = K' a) ∧ (∀ v K t, mOpt (some v) K t = K v) ∧ (∀ v K t, mObj (some (.cells v)) K t = K v) ∧ (∀ v K t, mLst (some v) K t = K v) ∧ (∀ v K t, mByt (some v) K t = K v) ∧
    (∀ a b K t, mNil (.ref a b) K t = K (.ref a b)) ∧ (∀ a K t, mNil (.cp a) K t = K (.cp a)) ∧ (∀ f a b K t, mNil (.fn (.func f) a b) K t = K (.fn (.func f) a b)) ∧ (∀ a b K t, mNil (.ifc a b) K t = K (.ifc a b)) ∧
    (∀ b K t, mNn (some true) (some b) K t = K b) ∧ (∀ K t, mNn (some false) (some true) K t = K false) ∧
    (∀ {α : Type} (f : α → AV) xs n F t, Elem (List.map f xs) n F t = ElemT xs n (fun x => F (f x)) .t) := by
  refine ⟨fun _ _ _ => rfl, fun _ _ _ _ => rfl, fun _ _ _ => rfl, fun _ _ _ => rfl, fun _ _ _ => rfl, fun _ _ _ => rfl, fun _ _ _ _ _ => rfl, fun _ _ _ _ => rfl, fun _ _ _ _ _ _ => rfl, fun _ _ _ _ _ _ _ _ => rfl, fun _ _ _ _ _ _ => rfl, fun _ _ _ _ _ => rfl, fun _ _ _ => rfl, fun _ _ _ => rfl, fun _ _ _ => rfl, fun _ _ _ => rfl,
    fun _ _ _ _ => rfl, fun _ _ _ => rfl, fun _ _ _ _ _ => rfl, fun _ _ _ _ => rfl, fun _ _ _ => rfl, fun _ _ => rfl, ?_⟩
  intro α f xs n F t
  apply propext
  simp only [Elem, ElemT, List.getElem?_map, Option.map_eq_some_iff]
  constructor
  · intro h e he; exact h _ ⟨e, he, rfl⟩
  · rintro h e ⟨x, hx, rfl⟩; exact h x hx

end Go.Abs
