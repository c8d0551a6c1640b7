/- Regions whose order is open: the theorem. -/
import Derived.Test.YtloimemacnjpgaaGreatAbsN2
set_option linter.all false
namespace Go.Abs
open Go Go.RowKit

variable {E : Env} {B : Base} {K : ASt → Prop} {Q : AEx → ASt → Prop}

def AStep (E : Env) (σ : ASt) (o : AOper) (v : AV) : Prop :=
  match o.guard with
  | none => adop E σ.heap (σ.ev E) o.op (fun x => x = v)
  | some (t, want) => match guardIs (look σ.tmps t) with
    | .yes b => (b = want → adop E σ.heap (σ.ev E) o.op (fun x => x = v)) ∧ (b = (!want) → v = .lit undef)
    | .never => v = .lit undef
    | .unknown => False

theorem adraw_vals : ∀ (as : List AOper) (σ : ASt), adraw E K as σ → ∃ vals, vals.length = as.length ∧
    (∀ i o v, as[i]? = some o → vals[i]? = some v → AStep E (pre σ as vals i) o v) ∧ K (pre σ as vals as.length)
  | [], σ, h => ⟨[], rfl, fun i o v ho => by simp at ho, h⟩
  | o :: as, σ, h => by
    have main : ∀ v, AStep E σ o v → adraw E K as (σ.putO o.dst v) → ∃ vals, vals.length = (o :: as).length ∧
        (∀ i o' v, (o :: as)[i]? = some o' → vals[i]? = some v → AStep E (pre σ (o :: as) vals i) o' v) ∧ K (pre σ (o :: as) vals (o :: as).length) := by
      intro v hs hr
      obtain ⟨vals, h1, h2, h3⟩ := adraw_vals as _ hr
      refine ⟨v :: vals, by simp [h1], fun i o' v' ho hv => ?_, h3⟩
      cases i with
      | zero => simp at ho hv; subst ho hv; exact hs
      | succ i => simp at ho hv; exact h2 i o' v' ho hv
    simp only [adraw] at h
    unfold AStep at main
    cases hg : o.guard with
    | none =>
      simp only [hg] at h main
      obtain ⟨v, h1, h2⟩ := adop_val h
      exact main v h2 h1
    | some tw =>
      obtain ⟨t, want⟩ := tw
      simp only [hg] at h main
      cases hgi : guardIs (look σ.tmps t) with
      | yes b =>
        simp only [hgi] at h main
        by_cases hb : b = want
        · obtain ⟨v, h1, h2⟩ := adop_val (h.1 (by simpa using hb))
          exact main v ⟨fun _ => h2, fun hb' => by subst hb; cases b <;> cases hb'⟩ h1
        · exact main _ ⟨fun hb' => absurd hb' hb, fun _ => rfl⟩ (h.2 (by simpa using hb))
      | never => simp only [hgi] at h main; exact main _ rfl h
      | unknown => simp only [hgi] at h

def lastW (as : List AOper) (vals : List AV) (L : Nat → Bool) (t : Nat) : Nat → Option AV
  | 0 => none
  | n + 1 => if L n = true ∧ (as[n]?).bind (·.dst) = some t then vals[n]? else lastW as vals L t n

theorem lastW_congr {as : List AOper} {vals : List AV} {L L' : Nat → Bool} {t : Nat} : ∀ (n : Nat), (∀ j, j < n → (as[j]?).bind (·.dst) = some t → L j = L' j) → lastW as vals L t n = lastW as vals L' t n
  | 0, _ => rfl
  | n + 1, h => by
    simp only [lastW]
    rw [lastW_congr n fun j hj => h j (by omega)]
    by_cases hd : (as[n]?).bind (·.dst) = some t
    · rw [h n (by omega) hd]
    · rw [if_neg (fun hh => hd hh.2), if_neg (fun hh => hd hh.2)]

theorem lastW_none {as : List AOper} {vals : List AV} {L : Nat → Bool} {t : Nat} : ∀ (n : Nat), (∀ j, j < n → L j = false) → lastW as vals L t n = none
  | 0, _ => rfl
  | n + 1, h => by
    simp only [lastW]
    rw [if_neg (by simp [h n (by omega)]), lastW_none n fun j hj => h j (by omega)]

theorem lastW_above {as : List AOper} {vals : List AV} {L : Nat → Bool} {t m : Nat} : ∀ (n : Nat), m ≤ n → (∀ j, m ≤ j → j < n → (as[j]?).bind (·.dst) = some t → L j = false) → lastW as vals L t n = lastW as vals L t m
  | 0, h, _ => by have : m = 0 := by omega
                  subst this; rfl
  | n + 1, h, hh => by
    by_cases hm : m = n + 1
    · subst hm; rfl
    · simp only [lastW]
      rw [if_neg (fun hx => by have := hh n (by omega) (by omega) hx.2; rw [this] at hx; cases hx.1)]
      exact lastW_above n (by omega) fun j h1 h2 => hh j h1 (by omega)

theorem look_putO {σ : ASt} {d : Option Nat} {v : AV} {t : Nat} : look (σ.putO d v).tmps t = if d = some t then v else look σ.tmps t := by
  cases d with
  | none => simp [ASt.putO]
  | some i =>
    simp only [ASt.putO, ASt.put, look]
    by_cases h : i = t
    · subst h; simp
    · rw [if_neg h, if_neg (by simpa using h)]

theorem heap_putO {σ : ASt} {d : Option Nat} {v : AV} : (σ.putO d v).heap = σ.heap := by cases d <;> rfl

theorem pre_look : ∀ (as : List AOper) (vals : List AV) (σ : ASt) (i t : Nat), vals.length = as.length → i ≤ as.length →
    (pre σ as vals i).heap = σ.heap ∧ look (pre σ as vals i).tmps t = (lastW as vals (fun _ => true) t i).getD (look σ.tmps t)
  | as, vals, σ, 0, t, _, _ => by cases as <;> cases vals <;> simp [pre, lastW]
  | [], vals, σ, i + 1, t, _, h => by simp at h
  | o :: as, [], σ, i + 1, t, h, _ => by simp at h
  | o :: as, v :: vals, σ, i + 1, t, hl, hi => by
    simp only [List.length_cons] at hl hi
    obtain ⟨h1, h2⟩ := pre_look as vals (σ.putO o.dst v) i t (by omega) (by omega)
    simp only [pre]
    refine ⟨by rw [h1, heap_putO], ?_⟩
    rw [h2, look_putO]
    clear h1 h2
    induction i with
    | zero =>
      simp only [lastW, List.getElem?_cons_zero, Option.bind_some, true_and, Option.getD_none]
      by_cases hd : o.dst = some t
      · rw [if_pos hd, if_pos hd]; rfl
      · rw [if_neg hd, if_neg hd]; rfl
    | succ i ih =>
      have ih := ih (by omega)
      simp only [lastW, true_and, List.getElem?_cons_succ] at ih ⊢
      by_cases hd : (as[i]?).bind (·.dst) = some t
      · rw [if_pos hd, if_pos hd]
        have hv : i < vals.length := by
          cases ha : as[i]? with
          | none => rw [ha] at hd; cases hd
          | some _ => have := (List.getElem?_eq_some_iff.1 ha).1; omega
        rw [List.getElem?_eq_getElem hv]; rfl
      · rw [if_neg hd, if_neg hd]; exact ih

theorem compOps_get {P : Program} {nt : Nat} {hs : Hints} {id : Nat} {ops : Array Oper} : ∀ (l : List Nat) (as : List AOper), compOps P nt hs id ops l = some as → as.length = l.length ∧
    ∀ (j i : Nat) (o : Oper), l[j]? = some i → ops[i]? = some o → ∃ ao gd, as[j]? = some ({ dst := o.dst, op := ao, guard := gd } : AOper) ∧ copT P (hs.contains (id, i)) o.op = some ao ∧ guardOf ops o.guard = some gd ∧ dstOk nt o.dst = true
  | [], as, h => by simp [compOps] at h; subst h; exact ⟨rfl, fun j i o hj => by simp at hj⟩
  | i :: l, as, h => by
    unfold compOps at h
    split at h
    · cases h
    · rename_i o ho
      split at h
      · rename_i ao gd rest hao hgd hrest
        split at h
        · rename_i hd
          cases h
          obtain ⟨h1, h2⟩ := compOps_get l rest hrest
          refine ⟨by simp [h1], fun j i' o' hj ho' => ?_⟩
          cases j with
          | zero => simp at hj; subst hj; rw [ho] at ho'; cases ho'; exact ⟨ao, gd, by simp, hao, hgd, hd⟩
          | succ j => simp at hj; simpa using h2 j i' o' hj ho'
        · cases h
      · cases h

theorem orderOk_spec {ops : Array Oper} (h : orderOk ops = true) : Region.noSelect ops = true ∧ ∀ j oj, ops[j]? = some oj →
    (∀ e ∈ oj.after, Region.binds .any e = true → e.on < j) ∧ ∀ i oi, i < j → ops[i]? = some oi → (∃ e ∈ oj.after, Region.binds .any e = true ∧ e.on = i) ∨ oi.apart ops oj = true := by
  simp only [orderOk, Bool.and_eq_true, List.all_eq_true, List.mem_range] at h
  refine ⟨h.1, fun j oj hj => ?_⟩
  have h1 := h.2 j (Array.getElem?_eq_some_iff.1 hj).1
  simp only [hj, Bool.and_eq_true, List.all_eq_true, List.mem_range] at h1
  refine ⟨fun e he hb => ?_, fun i oi hi hoi => ?_⟩
  · have := Array.all_eq_true_iff_forall_mem.1 h1.1 e he
    simpa [hb] using this
  · have := h1.2 i hi
    simp only [hoi, Bool.or_eq_true] at this
    refine this.imp (fun ha => ?_) id
    obtain ⟨e, he, hb⟩ := Array.any_eq_true'.1 ha
    simp only [Bool.and_eq_true, beq_iff_eq] at hb
    exact ⟨e, he, hb⟩

theorem Oper.wp_post {P : Program} {o : Oper} {a : Act} {w : World} {K : Act → World → Prop} {Q Q' : Exit → Act → World → Prop} (hq : ∀ c a w, Q c a w → Q' c a w) (hh : o.wp P a w K Q) : o.wp P a w K Q' := by
  unfold Oper.wp at *
  generalize (execOp a.eval o).run P w = r at *
  cases r with
  | ok n w' =>
    cases n <;> simp only [Oper.upon] at hh ⊢ <;>
      first
        | exact hh
        | exact Calls.mono hh (fun e w'' he => by
            cases e with
            | returned v => exact he
            | panicked c => exact hq _ _ _ he
            | outgrown => obtain ⟨a', w', h⟩ := he; exact ⟨a', w', hq _ _ _ h⟩)
  | halt x w' =>
    cases x <;> simp only [Oper.upon] at hh ⊢ <;> first | exact hh | exact hq _ _ _ hh

theorem Oper.wp_noQ {P : Program} {o : Oper} {a : Act} {w : World} {K : Act → World → Prop} {Q' : Exit → Act → World → Prop} (hh : o.wp P a w K (QC E B fun _ _ => False)) : o.wp P a w K Q' := by
  have no : ∀ e a w, ¬ QC E B (fun _ _ => False) e a w := fun e a w ⟨_, _, _, h, _⟩ => h
  unfold Oper.wp at *
  generalize (execOp a.eval o).run P w = r at *
  cases r with
  | ok n w' =>
    cases n <;> simp only [Oper.upon] at hh ⊢ <;>
      first
        | exact hh
        | exact Calls.mono hh (fun e w'' he => by
            cases e with
            | returned v => exact he
            | panicked c => exact absurd he (no _ _ _)
            | outgrown => obtain ⟨a', w', h⟩ := he; exact absurd h (no _ _ _))
  | halt x w' =>
    cases x <;> simp only [Oper.upon] at hh ⊢ <;> first | exact hh | exact absurd hh (no _ _ _)

theorem any_pre {Qs : Exit → Act → World → Prop} {ops : Array Oper} {id n p : Nat} {as : List AOper} {vals : List AV} {σ : ASt} (hnle : n ≤ ops.size) (hc : compOps E.P B.nt [] id ops (List.range n) = some as) (ho : orderOk ops = true)
    (hl : vals.length = as.length) (hst : ∀ i o v, p ≤ i → as[i]? = some o → vals[i]? = some v → AStep E (pre σ as vals i) o v) (hanc : ∀ (listed : Array Bool), (∀ j, j < ops.size → listed.getD j false = true → ∀ oj e, ops[j]? = some oj → e ∈ oj.after → Region.binds .any e = true → listed.getD e.on false = true) →
      ∀ i oi, n ≤ i → ops[i]? = some oi → (∀ e ∈ oi.after, Region.binds .any e = true → listed.getD e.on false = true) → ∀ j, j < n → listed.getD j false = true)
    (Hend : ∀ (fuel : Nat) (listed : Array Bool) (tmps : List (Nat × AV)) (a : Act) (w : World) (g : Gh), listed.size = ops.size → (∀ j, j < n → listed.getD j false = true) → (∀ j, n ≤ j → listed.getD j false = false) →
      (∀ t, look tmps t = look (pre σ as vals as.length).tmps t) → (pre σ as vals as.length).heap = σ.heap →
      ((List.range ops.size).filter fun j => !listed.getD j false).length ≤ fuel → RA E B { σ with tmps := tmps } a w g → wpAny E.P .any ops Qs fuel listed a w) :
    ∀ (fuel : Nat) (listed : Array Bool) (tmps : List (Nat × AV)) (a : Act) (w : World) (g : Gh), listed.size = ops.size →
      (∀ j, j < ops.size → listed.getD j false = true → ∀ oj e, ops[j]? = some oj → e ∈ oj.after → Region.binds .any e = true → listed.getD e.on false = true) →
      (∀ j, n ≤ j → listed.getD j false = false) → (∀ j, j < p → listed.getD j false = true) →
      (∀ t, look tmps t = (lastW as vals (fun j => listed.getD j false) t as.length).getD (look σ.tmps t)) →
      ((List.range ops.size).filter fun j => !listed.getD j false).length ≤ fuel →
      RA E B { σ with tmps := tmps } a w g → wpAny E.P .any ops Qs fuel listed a w := by
  obtain ⟨hns, hord⟩ := orderOk_spec ho
  obtain ⟨hlen, hget⟩ := compOps_get _ _ hc
  simp only [List.length_range] at hlen
  have hlt : ∀ {j o}, ops[j]? = some o → j < ops.size := fun h => (Array.getElem?_eq_some_iff.1 h).1
  have hsome : ∀ {j}, j < ops.size → ∃ o, ops[j]? = some o := fun h => ⟨_, Array.getElem?_eq_getElem h⟩
  have hdst : ∀ (j : Nat) (o : Oper), j < n → ops[j]? = some o → (as[j]?).bind (fun x : AOper => x.dst) = o.dst := fun j o hjn hj => by
    obtain ⟨ao, gd, h1, _⟩ := hget j j o (by rw [List.getElem?_range hjn]) hj
    simp [h1]
  -- where nothing may come up, all has
  have hdone : ∀ (listed : Array Bool), listed.size = ops.size → Region.ready .any ops listed = [] → ∀ j, j < ops.size → listed.getD j false = true := by
    intro listed hsz hr j
    induction j using Nat.strongRecOn with
    | _ j ih =>
      intro hj
      obtain ⟨oj, hoj⟩ := hsome hj
      rcases hb : listed.getD j false with _ | _
      · exfalso
        have : j ∈ Region.ready .any ops listed := by
          refine mem_ready.2 ⟨?_, oj, hoj, fun e he hbe => ih e.on ((hord j oj hoj).1 e he hbe) (Nat.lt_trans ((hord j oj hoj).1 e he hbe) hj)⟩
          rw [Array.getD_eq_getD_getElem?] at hb ⊢
          have hjl : j < listed.size := by omega
          rw [Array.getElem?_eq_getElem hjl] at hb ⊢
          exact hb
        rw [hr] at this; cases this
      · rfl
  have hfin : ∀ (fuel : Nat) (listed : Array Bool) (tmps : List (Nat × AV)) (a : Act) (w : World) (g : Gh), listed.size = ops.size → (∀ j, j < n → listed.getD j false = true) → (∀ j, n ≤ j → listed.getD j false = false) →
      (∀ t, look tmps t = (lastW as vals (fun j => listed.getD j false) t as.length).getD (look σ.tmps t)) → ((List.range ops.size).filter fun j => !listed.getD j false).length ≤ fuel → RA E B { σ with tmps := tmps } a w g → wpAny E.P .any ops Qs fuel listed a w := by
    intro fuel listed tmps a w g hsz hall hno hlook hf hR
    refine Hend fuel listed tmps a w g hsz hall hno (fun t => ?_) (pre_look as vals σ as.length 0 hl (Nat.le_refl _)).1 hf hR
    rw [(pre_look as vals σ as.length t hl (Nat.le_refl _)).2]
    simp only [hlook]
    rw [lastW_congr (L' := fun _ => true) _ fun j hj _ => hall j (by omega)]
  intro fuel
  induction fuel with
  | zero =>
    intro listed tmps a w g hsz hcl hno hpre hlook hf hR
    have hall : ∀ j, j < ops.size → listed.getD j false = true := fun j hj => by
      rcases hb : listed.getD j false with _ | _
      · exfalso
        have : j ∈ ((List.range ops.size).filter fun j => !listed.getD j false) := by rw [List.mem_filter]; exact ⟨List.mem_range.2 hj, by rw [hb]; rfl⟩
        rw [List.length_eq_zero_iff.1 (Nat.le_zero.1 hf)] at this; cases this
      · rfl
    exact hfin 0 listed tmps a w g hsz (fun j hj => hall j (by omega)) hno hlook hf hR
  | succ fuel ih =>
    intro listed tmps a w g hsz hcl hno hpre hlook hf hR
    by_cases hall : ∀ j, j < n → listed.getD j false = true
    · exact hfin (fuel + 1) listed tmps a w g hsz hall hno hlook hf hR
    refine ⟨fun hr => absurd (fun j hj => hdone listed hsz hr j (by omega)) hall, fun i hi => ?_⟩
    obtain ⟨hun, oi, hoi, hw⟩ := mem_ready.1 hi
    have hil := hlt hoi
    have hin : i < n := by
      rcases Nat.lt_or_ge i n with h | h
      · exact h
      · exact absurd (hanc listed hcl i oi h hoi hw) hall
    have hLi : listed.getD i false = false := by
      rw [Array.getD_eq_getD_getElem?] at hun ⊢
      rw [Array.getElem?_eq_getElem (by omega)] at hun ⊢
      exact hun
    obtain ⟨ao, gd, hai, hao, hgd, hdk⟩ := hget i i oi (by rw [List.getElem?_range hin]) hoi
    have hvi : i < vals.length := by omega
    have hpi : p ≤ i := by
      rcases Nat.lt_or_ge i p with h | h
      · have := hpre i h; rw [hLi] at this; cases this
      · exact h
    have hA := hst i _ vals[i] hpi hai (List.getElem?_eq_getElem hvi)
    have hd := dstOk_spec hdk
    -- what the operation looks at is as in the text's order
    have hsame : ∀ t, t ∈ oi.looksAt ops → look tmps t = look (pre σ as vals i).tmps t := by
      intro t ht
      rw [hlook, (pre_look as vals σ i t hl (by omega)).2]
      congr 1
      have e1 : lastW as vals (fun j => listed.getD j false) t as.length = lastW as vals (fun j => decide (j < i)) t as.length := by
        refine lastW_congr _ fun j hj hdj => ?_
        obtain ⟨oj, hoj⟩ := hsome (show j < ops.size by omega)
        rw [hdst j oj (by omega) hoj] at hdj
        rcases Nat.lt_trichotomy j i with h | h | h
        · simp only [h, decide_true]
          rcases (hord i oi hoi).2 j oj h hoj with ⟨e, he, hb, rfl⟩ | hap
          · exact hw e he hb
          · exact absurd ht ((Oper.apart_spec hap).1 t hdj)
        · subst h; simpa using hLi
        · have : ¬ j < i := by omega
          simp only [this, decide_false]
          rcases hb : listed.getD j false with _ | _
          · rfl
          · exfalso
            rcases (hord j oj hoj).2 i oi h hoi with ⟨e, he, hbe, rfl⟩ | hap
            · have := hcl j (by omega) hb oj e hoj he hbe
              rw [hLi] at this; cases this
            · exact (Oper.apart_spec hap).2.2 t hdj ht
      rw [e1, lastW_above (m := i) _ (by omega) (fun j h1 h2 _ => by simp; omega)]
      exact lastW_congr _ fun j hj _ => by simpa using hj
    -- the state behind it
    have hnext : ∀ a' w' g', RA E B (({ σ with tmps := tmps } : ASt).putO oi.dst vals[i]) a' w' g' → wpAny E.P .any ops Qs fuel (listed.setIfInBounds i true) a' w' := by
      intro a' w' g' hR'
      have heq : ({ σ with tmps := tmps } : ASt).putO oi.dst vals[i] = { σ with tmps := (({ σ with tmps := tmps } : ASt).putO oi.dst vals[i]).tmps } := by
        cases oi.dst <;> rfl
      rw [heq] at hR'
      refine ih (listed.setIfInBounds i true) _ a' w' g' (by simpa using hsz) ?_ (fun j hj => by rw [getD_set_ne false (by omega)]; exact hno j hj) (fun j hj => getD_set_true (hpre j hj)) ?_ ?_ hR'
      · intro j hj hLj oj e hoj he hbe
        by_cases hji : i = j
        · subst hji
          rw [hoi] at hoj; cases hoj
          exact getD_set_true (hw e he hbe)
        · rw [getD_set_ne false hji] at hLj
          exact getD_set_true (hcl j hj hLj oj e hoj he hbe)
      · intro t
        rw [look_putO]
        by_cases hdt : oi.dst = some t
        · rw [if_pos hdt]
          have e2 : lastW as vals (fun j => (listed.setIfInBounds i true).getD j false) t as.length = lastW as vals (fun j => (listed.setIfInBounds i true).getD j false) t (i + 1) := by
            refine lastW_above _ (by omega) fun j h1 h2 hdj => ?_
            obtain ⟨oj, hoj⟩ := hsome (show j < ops.size by omega)
            rw [hdst j oj (by omega) hoj] at hdj
            rw [getD_set_ne false (by omega)]
            rcases hb : listed.getD j false with _ | _
            · rfl
            · exfalso
              rcases (hord j oj hoj).2 i oi (by omega) hoi with ⟨e, he, hbe, rfl⟩ | hap
              · have := hcl j (by omega) hb oj e hoj he hbe
                rw [hLi] at this; cases this
              · exact (Oper.apart_spec hap).2.1 t hdt hdj
          rw [e2]
          simp only [lastW]
          rw [if_pos ⟨by rw [Array.getD_eq_getD_getElem?]; simp [Array.getElem?_setIfInBounds, hsz, hil], by rw [hdst i oi hin hoi]; exact hdt⟩, List.getElem?_eq_getElem hvi]
          rfl
        · rw [if_neg hdt]
          simp only [hlook]
          congr 1
          refine lastW_congr _ fun j hj hdj => ?_
          obtain ⟨oj, hoj⟩ := hsome (show j < ops.size by omega)
          rw [hdst j oj (by omega) hoj] at hdj
          have hji : i ≠ j := by rintro rfl; rw [hoi] at hoj; cases hoj; exact hdt hdj
          rw [getD_set_ne false hji]
      · have e3 : ((List.range ops.size).filter fun j => !(listed.setIfInBounds i true).getD j false) = (((List.range ops.size).filter fun j => !listed.getD j false).filter fun j => j != i) := by
          rw [List.filter_filter]
          refine List.filter_congr fun j hj => ?_
          by_cases hji : i = j
          · subst hji
            have : (listed.setIfInBounds i true).getD i false = true := by rw [Array.getD_eq_getD_getElem?]; simp [Array.getElem?_setIfInBounds, hsz, hil]
            rw [this]; simp
          · rw [getD_set_ne false hji]
            have : (j != i) = true := by simp; omega
            rw [this]; simp
        rw [e3]
        have : (((List.range ops.size).filter fun j => !listed.getD j false).filter fun j => j != i).length < ((List.range ops.size).filter fun j => !listed.getD j false).length := by
          rw [List.length_filter_lt_length_iff_exists]
          exact ⟨i, by rw [List.mem_filter]; exact ⟨List.mem_range.2 hil, by rw [hLi]; rfl⟩, by simp⟩
        omega
    -- it is carried out, or passed over
    have hcop : cop E.P oi.op = some ao := by simpa [copT] using hao
    have hgo : adop E (pre σ as vals i).heap ((pre σ as vals i).ev E) ao (fun x => x = vals[i]) → oi.wp E.P a w (wpAny E.P .any ops Qs fuel (listed.setIfInBounds i true)) Qs := by
      intro hv
      have hev : ∀ x, x ∈ ao.ops → (pre σ as vals i).ev E x = ({ σ with tmps := tmps } : ASt).ev E x := by
        intro x hx
        have hx' := cop_ops hcop x hx
        cases x with
        | tmp t =>
          simp only [ASt.ev]
          rw [hsame t]
          exact List.mem_append_left _ (List.mem_filterMap.2 ⟨.tmp t, hx', rfl⟩)
        | _ => rfl
      rw [adop_congr ao hev, (pre_look as vals σ i 0 hl (by omega)).1] at hv
      refine Oper.wp_mono ?_ (Oper.wp_noQ (adop_sound (Q := fun _ _ => False) hcop hd hR hv))
      rintro a' w' ⟨σ', g', ⟨v, hv', rfl⟩, hR'⟩
      subst hv'
      exact hnext a' w' g' hR'
    have hskip : vals[i] = .lit undef → wpAny E.P .any ops Qs fuel (listed.setIfInBounds i true) (a.put oi.dst undef) w := by
      intro hu
      refine hnext _ _ g ?_
      rw [hu]
      exact putO_undef hR hd
    unfold wpOp
    simp only [hoi]
    unfold AStep at hA
    cases gd with
    | none =>
      have hgn : oi.guard = none := by
        unfold guardOf at hgd
        split at hgd
        · assumption
        · split at hgd <;> cases hgd
      simp only at hA
      rw [if_pos (by simp [Region.wanted, hgn])]
      exact .inl (hgo hA)
    | some tw =>
      obtain ⟨t, want⟩ := tw
      obtain ⟨h1, h2⟩ := guard_wanted hgd hR
      have htl : t ∈ oi.looksAt ops := by
        unfold guardOf at hgd
        split at hgd
        · cases hgd
        · rename_i jj ww hgg
          split at hgd
          · rename_i t' ht'
            cases hgd
            refine List.mem_append_right _ ?_
            simp [hgg, ht']
          · cases hgd
      simp only at hA
      rw [← hsame t htl] at hA
      split at hA
      · rename_i b hb
        rw [h1 b hb]
        by_cases hbw : b = want
        · rw [if_pos (by simp [hbw])]; exact .inl (hgo (hA.1 hbw))
        · rw [if_neg (by simpa using hbw)]; exact hskip (hA.2 (by cases b <;> cases want <;> first | rfl | exact absurd rfl hbw))
      · rename_i hb
        rw [h2 hb, if_neg (by simp)]; exact hskip hA
      · exact hA.elim

theorem any_sound {ops : Array Oper} {id : Nat} {as : List AOper} {vals : List AV} {σ : ASt} (hc : compOps E.P B.nt [] id ops (List.range ops.size) = some as) (ho : orderOk ops = true)
    (hl : vals.length = as.length) (hst : ∀ i o v, as[i]? = some o → vals[i]? = some v → AStep E (pre σ as vals i) o v) (hK : K (pre σ as vals as.length)) (hKQ : ∀ σ, K σ → Q .normal σ) :
    ∀ (fuel : Nat) (listed : Array Bool) (tmps : List (Nat × AV)) (a : Act) (w : World) (g : Gh), listed.size = ops.size →
      (∀ j, j < ops.size → listed.getD j false = true → ∀ oj e, ops[j]? = some oj → e ∈ oj.after → Region.binds .any e = true → listed.getD e.on false = true) →
      (∀ t, look tmps t = (lastW as vals (fun j => listed.getD j false) t as.length).getD (look σ.tmps t)) →
      ((List.range ops.size).filter fun j => !listed.getD j false).length ≤ fuel →
      RA E B { σ with tmps := tmps } a w g → wpAny E.P .any ops (QC E B Q) fuel listed a w := by
  intro fuel listed tmps a w g hsz hcl hlook hf hR
  refine any_pre (n := ops.size) (p := 0) (Nat.le_refl _) hc ho hl (fun i o v _ => hst i o v) (fun listed _ i oi hi hoi => ?_) (fun fuel listed tmps a w g hsz hall hno hlk hheap hf hR => ?_) fuel listed tmps a w g hsz hcl (fun j hj => ?_) (fun j hj => absurd hj (Nat.not_lt_zero _)) hlook hf hR
  · have := (Array.getElem?_eq_some_iff.1 hoi).1
    omega
  · have hq : QC E B Q .normal a w := ⟨.normal, _, g, hKQ _ hK, rfl, Weak.ra (σ := { σ with tmps := tmps }) ⟨hheap, fun t => .inl (hlk t).symm⟩ hR⟩
    have hr : Region.ready .any ops listed = [] := by
      apply List.eq_nil_iff_forall_not_mem.2
      intro j hj
      obtain ⟨h1, o, ho', _⟩ := mem_ready.1 hj
      have hjl := (Array.getElem?_eq_some_iff.1 ho').1
      have := hall j hjl
      rw [Array.getD_eq_getD_getElem?] at h1 this
      rw [Array.getElem?_eq_getElem (by rw [hsz]; exact hjl)] at h1 this
      simp at h1 this
      rw [h1] at this; cases this
    cases fuel with
    | zero => exact ⟨hr, hq⟩
    | succ fuel => exact ⟨fun _ => hq, fun i hi => by rw [hr] at hi; cases hi⟩
  · rw [Array.getD_eq_getD_getElem?, Array.getElem?_eq_none (by omega)]; rfl

end Go.Abs

namespace Go.Abs
open Go Go.RowKit

variable {E : Env} {B : Base} {K : ASt → Prop} {Q : AEx → ASt → Prop}

theorem copT_ops {P : Program} {tk : Bool} {op : Op} {ao : AOp} (hc : copT P tk op = some ao) (hk : (∃ f args, ao = .call f args) ∨ ∃ k b z s x, ao = .appendO k b z s x) : ∀ x, x ∈ ao.ops → x ∈ op.operands.toList := by
  cases tk with
  | false => exact cop_ops (by simpa [copT] using hc)
  | true =>
    unfold copT at hc
    simp only [if_true] at hc
    split at hc
    · cases hc; rcases hk with ⟨_, _, h⟩ | ⟨_, _, _, _, _, h⟩ <;> cases h
    · cases hc; rcases hk with ⟨_, _, h⟩ | ⟨_, _, _, _, _, h⟩ <;> cases h
    · split at hc <;> cases hc; rcases hk with ⟨_, _, h⟩ | ⟨_, _, _, _, _, h⟩ <;> cases h
    · split at hc
      · split at hc
        · split at hc <;> cases hc; rcases hk with ⟨_, _, h⟩ | ⟨_, _, _, _, _, h⟩ <;> cases h
        · cases hc
      · cases hc
    · split at hc <;> cases hc; rcases hk with ⟨_, _, h⟩ | ⟨_, _, _, _, _, h⟩ <;> cases h
    · split at hc
      · rename_i h1
        cases hc
        have := cop_ops h1
        simpa [AOp.ops] using this
      · cases hc
    · cases hc

theorem eop_kind {h : List AObj} {ev : Operand → AV} {ao : AOp} {K : List AObj → AV → Prop} (hv : eop E h ev ao K) : (∃ f args, ao = .call f args) ∨ ∃ k b z s x, ao = .appendO k b z s x := by
  unfold eop at hv
  split at hv
  · exact .inl ⟨_, _, rfl⟩
  · exact .inr ⟨_, _, _, _, _, rfl⟩
  · exact hv.elim

theorem eop_congr {h : List AObj} {ev ev' : Operand → AV} {ao : AOp} {K : List AObj → AV → Prop} (hh : ∀ x, x ∈ ao.ops → ev x = ev' x) (hv : eop E h ev ao K) : eop E h ev' ao K := by
  unfold eop at hv ⊢
  split at hv
  · rename_i f args
    have h1 := hh f (by simp [AOp.ops])
    have h2 : args.map (fun x => ev x.1) = args.map (fun x => ev' x.1) := List.map_congr_left fun x hx => hh x.1 (by simp [AOp.ops]; have := hx; cases x with | mk p q => cases q <;> simp_all)
    simp only [← h1, ← h2]
    exact hv
  · rename_i k b z s x
    have h1 := hh s (by simp [AOp.ops])
    have h2 := hh x (by simp [AOp.ops])
    simp only [← h1, ← h2]
    exact hv
  · exact hv.elim

theorem eop_aop {σ : ASt} {d : Option Nat} {ao : AOp} {K : List AObj → AV → Prop} (hv : eop E σ.heap (σ.ev E) ao K) :
    aop E σ d (fun σ' => ∃ h' v, K h' v ∧ σ' = { σ with heap := h' }.putO d v) (fun _ _ => False) ao := by
  unfold eop at hv
  split at hv
  · rename_i f args
    simp only [aop, fnOf]
    split at hv
    · rename_i fid first caps hf
      simp only [hf]
      refine Ev.mono hv fun r h' hr => ?_
      cases r with
      | ret v => exact ⟨h', _, hr, rfl⟩
      | panic v => exact hr.elim
    · exact hv.elim
  · rename_i k b z s x
    simp only [aop]
    split at hv
    · rename_i id off len cap xs h1 h2
      simp only [h1, h2]
      split at hv
      · rename_i l hl
        simp only [hl]
        exact ⟨hv.1, fun h => ⟨(hv.2.1 h).1, _, _, (hv.2.1 h).2, rfl⟩, fun h c hc => ⟨_, _, hv.2.2 h c hc, rfl⟩⟩
      · exact hv.elim
    · rename_i es xs h1 h2
      simp only [h1, h2]
      exact ⟨hv.1, fun h => ⟨(hv.2.1 h).1, _, _, (hv.2.1 h).2, by cases σ; rfl⟩, fun h c hc => ⟨_, _, hv.2.2 h c hc, rfl⟩⟩
    · exact hv.elim
  · exact hv.elim

theorem aflt_vals : ∀ (as : List AOper) (fl : List Bool) (σ : ASt) (K : List AV → Prop), aflt E as fl σ K → ∃ vals, vals.length = as.length ∧ fl.length = as.length ∧
    (∀ (i : Nat), fl[i]? = some true → vals[i]? = some AV.any) ∧ (∀ (i : Nat) (o : AOper) (v : AV), fl[i]? = some false → as[i]? = some o → vals[i]? = some v → AStep E (pre σ as vals i) o v) ∧ K vals
  | [], [], σ, K, h => ⟨[], rfl, rfl, fun i hi => by simp at hi, fun i o v hi => by simp at hi, h⟩
  | [], f :: fl, σ, K, h => by cases f <;> exact h.elim
  | o :: as, [], σ, K, h => h.elim
  | o :: as, true :: fl, σ, K, h => by
    simp only [aflt] at h
    obtain ⟨vals, h1, h2, h3, h4, h5⟩ := aflt_vals as fl _ _ h
    refine ⟨.any :: vals, by simp [h1], by simp [h2], fun i hi => ?_, fun i o' v hi ho hv => ?_, h5⟩
    · cases i with
      | zero => rfl
      | succ i => simpa using h3 i (by simpa using hi)
    · cases i with
      | zero => simp at hi
      | succ i => simp at hi ho hv; exact h4 i o' v hi ho hv
  | o :: as, false :: fl, σ, K, h => by
    have main : ∀ v, AStep E σ o v → aflt E as fl (σ.putO o.dst v) (fun vs => K (v :: vs)) → ∃ vals, vals.length = (o :: as).length ∧ (false :: fl).length = (o :: as).length ∧
        (∀ (i : Nat), (false :: fl)[i]? = some true → vals[i]? = some AV.any) ∧ (∀ (i : Nat) (o' : AOper) (v : AV), (false :: fl)[i]? = some false → (o :: as)[i]? = some o' → vals[i]? = some v → AStep E (pre σ (o :: as) vals i) o' v) ∧ K vals := by
      intro v hs hr
      obtain ⟨vals, h1, h2, h3, h4, h5⟩ := aflt_vals as fl _ _ hr
      refine ⟨v :: vals, by simp [h1], by simp [h2], fun i hi => ?_, fun i o' v' hi ho hv => ?_, h5⟩
      · cases i with
        | zero => simp at hi
        | succ i => simpa using h3 i (by simpa using hi)
      · cases i with
        | zero => simp at ho hv; subst ho hv; exact hs
        | succ i => simp at hi ho hv; exact h4 i o' v' hi ho hv
    simp only [aflt] at h
    unfold AStep at main
    cases hg : o.guard with
    | none =>
      simp only [hg] at h main
      obtain ⟨v, h1, h2⟩ := adop_val h
      exact main v h2 h1
    | some tw =>
      obtain ⟨t, want⟩ := tw
      simp only [hg] at h main
      cases hgi : guardIs (look σ.tmps t) with
      | yes b =>
        simp only [hgi] at h main
        by_cases hb : b = want
        · obtain ⟨v, h1, h2⟩ := adop_val (h.1 (by simpa using hb))
          exact main v ⟨fun _ => h2, fun hb' => by subst hb; cases b <;> cases hb'⟩ h1
        · exact main _ ⟨fun hb' => absurd hb' hb, fun _ => rfl⟩ (h.2 (by simpa using hb))
      | never => simp only [hgi] at h main; exact main _ rfl h
      | unknown => simp only [hgi] at h

theorem lastW_vals {as : List AOper} {vals vals' : List AV} {L : Nat → Bool} {t : Nat} : ∀ (n : Nat), (∀ j, j < n → (as[j]?).bind (·.dst) = some t → L j = true → vals[j]? = vals'[j]?) → lastW as vals L t n = lastW as vals' L t n
  | 0, _ => rfl
  | n + 1, h => by
    simp only [lastW]
    rw [lastW_vals n fun j hj => h j (by omega)]
    by_cases hd : L n = true ∧ (as[n]?).bind (·.dst) = some t
    · rw [if_pos hd, if_pos hd]; exact h n (by omega) hd.2 hd.1
    · rw [if_neg hd, if_neg hd]

theorem effIdx_mem : ∀ (fl : List Bool) (i e : Nat), e ∈ effIdx fl i ↔ i ≤ e ∧ fl[e - i]? = some true
  | [], i, e => by simp [effIdx]
  | true :: fl, i, e => by
    simp only [effIdx, List.mem_cons, effIdx_mem fl (i + 1) e]
    constructor
    · rintro (rfl | ⟨h1, h2⟩)
      · exact ⟨Nat.le_refl _, by simp⟩
      · refine ⟨by omega, ?_⟩
        have : e - i = (e - (i + 1)) + 1 := by omega
        rw [this]; simpa using h2
    · rintro ⟨h1, h2⟩
      by_cases he : e = i
      · exact .inl he
      · refine .inr ⟨by omega, ?_⟩
        have : e - i = (e - (i + 1)) + 1 := by omega
        rw [this] at h2; simpa using h2
  | false :: fl, i, e => by
    simp only [effIdx, effIdx_mem fl (i + 1) e]
    constructor
    · rintro ⟨h1, h2⟩
      refine ⟨by omega, ?_⟩
      have : e - i = (e - (i + 1)) + 1 := by omega
      rw [this]; simpa using h2
    · rintro ⟨h1, h2⟩
      by_cases he : e = i
      · subst he; simp at h2
      · refine ⟨by omega, ?_⟩
        have : e - i = (e - (i + 1)) + 1 := by omega
        rw [this] at h2; simpa using h2
theorem effIdx_sorted : ∀ (fl : List Bool) (i : Nat), (effIdx fl i).Pairwise (· < ·)
  | [], i => List.Pairwise.nil
  | true :: fl, i => List.Pairwise.cons (fun e he => by have := ((effIdx_mem fl (i + 1) e).1 he).1; omega) (effIdx_sorted fl (i + 1))
  | false :: fl, i => effIdx_sorted fl (i + 1)

theorem adop_ev {h : List AObj} {ev ev' : Operand → AV} {ao : AOp} {K : AV → Prop} (hh : ∀ x, x ∈ ao.ops → ev x = ev' x) (hv : adop E h ev ao K) : adop E h ev' ao K := by
  rw [adop_congr ao hh] at hv; exact hv

theorem AStep_of_looks {ops : Array Oper} {P : Program} {oi : Oper} {ao : AOp} {gd : Option (Nat × Bool)} {d : Option Nat} {τ τ' : ASt} {v : AV} (hcop : cop P oi.op = some ao) (hgd : guardOf ops oi.guard = some gd)
    (hh : τ.heap = τ'.heap) (hlk : ∀ t, t ∈ oi.looksAt ops → look τ.tmps t = look τ'.tmps t) (hv : AStep E τ ⟨d, ao, gd⟩ v) : AStep E τ' ⟨d, ao, gd⟩ v := by
  have hev : ∀ x, x ∈ ao.ops → τ.ev E x = τ'.ev E x := by
    intro x hx
    have hx' := cop_ops hcop x hx
    cases x with
    | tmp t =>
      simp only [ASt.ev]
      rw [hlk t]
      exact List.mem_append_left _ (List.mem_filterMap.2 ⟨.tmp t, hx', rfl⟩)
    | _ => rfl
  unfold AStep at hv ⊢
  cases gd with
  | none =>
    simp only at hv ⊢
    rw [← hh]
    exact adop_ev hev hv
  | some tw =>
    obtain ⟨t, want⟩ := tw
    have htl : t ∈ oi.looksAt ops := by
      unfold guardOf at hgd
      split at hgd
      · cases hgd
      · rename_i jj ww hgg
        split at hgd
        · rename_i t' ht'
          cases hgd
          refine List.mem_append_right _ ?_
          simp [hgg, ht']
        · cases hgd
    simp only at hv ⊢
    rw [← hlk t htl, ← hh]
    split at hv
    · exact ⟨fun hb => adop_ev hev (hv.1 hb), hv.2⟩
    · exact hv
    · exact hv

set_option maxHeartbeats 4000000 in
theorem any_eff {Qs : Exit → Act → World → Prop} {ops : Array Oper} {id n : Nat} {hs : Hints} {as : List AOper} {v0 : List AV} {σ : ASt} {Kend : ASt → Prop} (hnle : n ≤ ops.size) (hc : compOps E.P B.nt hs id ops (List.range n) = some as) (ho : orderOk ops = true)
    (hch : effChain ops (effFl hs id n) = true) (hfree : effFree ops (effFl hs id n) = true) (hanc : ∀ (listed : Array Bool), (∀ j, j < ops.size → listed.getD j false = true → ∀ oj e, ops[j]? = some oj → e ∈ oj.after → Region.binds .any e = true → listed.getD e.on false = true) →
      ∀ i oi, n ≤ i → ops[i]? = some oi → (∀ e ∈ oi.after, Region.binds .any e = true → listed.getD e.on false = true) → ∀ j, j < n → listed.getD j false = true)
    (hreach : ∀ (listed : Array Bool), (∀ j, j < ops.size → listed.getD j false = true → ∀ oj e, ops[j]? = some oj → e ∈ oj.after → Region.binds .any e = true → listed.getD e.on false = true) →
      ∀ i oi j, ops[i]? = some oi → (∀ e ∈ oi.after, Region.binds .any e = true → listed.getD e.on false = true) → reach ops ops.size i j = true → listed.getD j false = true)
    (Hend : ∀ (fuel : Nat) (listed : Array Bool) (vs : List AV) (h : List AObj) (tmps : List (Nat × AV)) (a : Act) (w : World) (g : Gh), listed.size = ops.size → (∀ j, j < n → listed.getD j false = true) → (∀ j, n ≤ j → listed.getD j false = false) →
      Kend (pre { σ with heap := h } as vs as.length) → (∀ t, look tmps t = look (pre { σ with heap := h } as vs as.length).tmps t) → (pre { σ with heap := h } as vs as.length).heap = h →
      ((List.range ops.size).filter fun j => !listed.getD j false).length ≤ fuel → RA E B { tmps := tmps, heap := h } a w g → wpAny E.P .any ops Qs fuel listed a w) :
    ∀ (fuel : Nat) (listed : Array Bool) (es : List Nat) (vs : List AV) (h : List AObj) (tmps : List (Nat × AV)) (a : Act) (w : World) (g : Gh), listed.size = ops.size →
      (∀ j, j < ops.size → listed.getD j false = true → ∀ oj e, ops[j]? = some oj → e ∈ oj.after → Region.binds .any e = true → listed.getD e.on false = true) →
      (∀ j, n ≤ j → listed.getD j false = false) → vs.length = as.length →
      (∀ (e : Nat), e ∈ es ↔ (effFl hs id n)[e]? = some true ∧ listed.getD e false = false) → es.Pairwise (· < ·) →
      (∀ (i : Nat), (effFl hs id n)[i]? = some false → vs[i]? = v0[i]?) →
      (∀ (i : Nat) (o : AOper) (v : AV), (effFl hs id n)[i]? = some false → as[i]? = some o → vs[i]? = some v → AStep E (pre { σ with heap := h } as vs i) o v) →
      ach E σ as (effFl hs id n) v0 Kend es vs h →
      (∀ t, look tmps t = (lastW as vs (fun j => listed.getD j false) t as.length).getD (look σ.tmps t)) →
      ((List.range ops.size).filter fun j => !listed.getD j false).length ≤ fuel →
      RA E B { tmps := tmps, heap := h } a w g → wpAny E.P .any ops Qs fuel listed a w := by
  obtain ⟨hns, hord⟩ := orderOk_spec ho
  obtain ⟨hlen, hget⟩ := compOps_get _ _ hc
  simp only [List.length_range] at hlen
  have hlt : ∀ {j o}, ops[j]? = some o → j < ops.size := fun h => (Array.getElem?_eq_some_iff.1 h).1
  have hsome : ∀ {j}, j < ops.size → ∃ o, ops[j]? = some o := fun h => ⟨_, Array.getElem?_eq_getElem h⟩
  have hflen : (effFl hs id n).length = n := by simp [effFl]
  have hfget : ∀ j, j < n → (effFl hs id n)[j]? = some (hs.contains (id, j) || hs.contains (id, 500 + j)) := fun j hj => by
    simp [effFl, List.getElem?_map, List.getElem?_range hj]
  have hflt : ∀ {j : Nat} {b : Bool}, (effFl hs id n)[j]? = some b → j < n := fun h => by have := (List.getElem?_eq_some_iff.1 h).1; omega
  have hfd : ∀ {j : Nat} {b : Bool}, (effFl hs id n)[j]? = some b → (effFl hs id n).getD j false = b := fun h => by simp [List.getD, h]
  have hdst : ∀ (j : Nat) (o : Oper), j < n → ops[j]? = some o → (as[j]?).bind (fun x : AOper => x.dst) = o.dst := fun j o hjn hj => by
    obtain ⟨ao, gd, h1, _⟩ := hget j j o (by rw [List.getElem?_range hjn]) hj
    simp [h1]
  -- those that read look at nothing of those that write
  have hnol : ∀ (j : Nat) (oj : Oper) (i : Nat) (oi : Oper) (d : Nat), (effFl hs id n)[j]? = some false → ops[j]? = some oj → (effFl hs id n)[i]? = some true → ops[i]? = some oi → oi.dst = some d → d ∉ oj.looksAt ops := by
    intro j oj i oi d hj hoj hi hoi hd
    have := List.all_eq_true.1 hfree j (List.mem_range.2 (by rw [hflen]; exact hflt hj))
    rw [hfd hj, Bool.false_or] at this
    have := List.all_eq_true.1 this i (List.mem_range.2 (by rw [hflen]; exact hflt hi))
    rw [hfd hi] at this
    simp only [hoi, hoj, hd, Bool.not_true, Bool.false_or, Bool.not_eq_true', List.contains_eq_mem, decide_eq_false_iff_not] at this
    exact this
  have hpair : ∀ (i j : Nat), (effFl hs id n)[i]? = some true → (effFl hs id n)[j]? = some true → i < j → reach ops ops.size j i = true := by
    intro i j hi hj hij
    have := List.all_eq_true.1 hch j (List.mem_range.2 (by rw [hflen]; exact hflt hj))
    rw [hfd hj, Bool.not_true, Bool.false_or] at this
    have := List.all_eq_true.1 this i (List.mem_range.2 hij)
    rw [hfd hi] at this
    simpa using this
  have hdone : ∀ (listed : Array Bool), listed.size = ops.size → Region.ready .any ops listed = [] → ∀ j, j < ops.size → listed.getD j false = true := by
    intro listed hsz hr j
    induction j using Nat.strongRecOn with
    | _ j ih =>
      intro hj
      obtain ⟨oj, hoj⟩ := hsome hj
      rcases hb : listed.getD j false with _ | _
      · exfalso
        have : j ∈ Region.ready .any ops listed := by
          refine mem_ready.2 ⟨?_, oj, hoj, fun e he hbe => ih e.on ((hord j oj hoj).1 e he hbe) (Nat.lt_trans ((hord j oj hoj).1 e he hbe) hj)⟩
          rw [Array.getD_eq_getD_getElem?] at hb ⊢
          have hjl : j < listed.size := by omega
          rw [Array.getElem?_eq_getElem hjl] at hb ⊢
          exact hb
        rw [hr] at this; cases this
      · rfl
  have hfin : ∀ (fuel : Nat) (listed : Array Bool) (es : List Nat) (vs : List AV) (h : List AObj) (tmps : List (Nat × AV)) (a : Act) (w : World) (g : Gh), listed.size = ops.size → (∀ j, j < n → listed.getD j false = true) → (∀ j, n ≤ j → listed.getD j false = false) → vs.length = as.length →
      (∀ (e : Nat), e ∈ es ↔ (effFl hs id n)[e]? = some true ∧ listed.getD e false = false) → ach E σ as (effFl hs id n) v0 Kend es vs h →
      (∀ t, look tmps t = (lastW as vs (fun j => listed.getD j false) t as.length).getD (look σ.tmps t)) → ((List.range ops.size).filter fun j => !listed.getD j false).length ≤ fuel → RA E B { tmps := tmps, heap := h } a w g → wpAny E.P .any ops Qs fuel listed a w := by
    intro fuel listed es vs h tmps a w g hsz hall hno hl hes hC hlook hf hR
    have hnil : es = [] := List.eq_nil_iff_forall_not_mem.2 fun e he => by
      obtain ⟨h1, h2⟩ := (hes e).1 he
      rw [hall e (hflt h1)] at h2; cases h2
    subst hnil
    refine Hend fuel listed vs h tmps a w g hsz hall hno hC (fun t => ?_) (pre_look as vs _ as.length 0 hl (Nat.le_refl _)).1 hf hR
    rw [(pre_look as vs _ as.length t hl (Nat.le_refl _)).2, hlook]
    rw [lastW_congr (L' := fun _ => true) _ fun j hj _ => hall j (by omega)]
  intro fuel
  induction fuel with
  | zero =>
    intro listed es vs h tmps a w g hsz hcl hno hl hes hsort hv0 hF hC hlook hf hR
    have hall : ∀ j, j < ops.size → listed.getD j false = true := fun j hj => by
      rcases hb : listed.getD j false with _ | _
      · exfalso
        have : j ∈ ((List.range ops.size).filter fun j => !listed.getD j false) := by rw [List.mem_filter]; exact ⟨List.mem_range.2 hj, by rw [hb]; rfl⟩
        rw [List.length_eq_zero_iff.1 (Nat.le_zero.1 hf)] at this; cases this
      · rfl
    exact hfin 0 listed es vs h tmps a w g hsz (fun j hj => hall j (by omega)) hno hl hes hC hlook hf hR
  | succ fuel ih =>
    intro listed es vs h tmps a w g hsz hcl hno hl hes hsort hv0 hF hC hlook hf hR
    by_cases hall : ∀ j, j < n → listed.getD j false = true
    · exact hfin (fuel + 1) listed es vs h tmps a w g hsz hall hno hl hes hC hlook hf hR
    refine ⟨fun hr => absurd (fun j hj => hdone listed hsz hr j (by omega)) hall, fun i hi => ?_⟩
    obtain ⟨hun, oi, hoi, hw⟩ := mem_ready.1 hi
    have hil := hlt hoi
    have hin : i < n := by
      rcases Nat.lt_or_ge i n with h | h
      · exact h
      · exact absurd (hanc listed hcl i oi h hoi hw) hall
    have hLi : listed.getD i false = false := by
      rw [Array.getD_eq_getD_getElem?] at hun ⊢
      rw [Array.getElem?_eq_getElem (by omega)] at hun ⊢
      exact hun
    obtain ⟨ao, gd, hai, hao, hgd, hdk⟩ := hget i i oi (by rw [List.getElem?_range hin]) hoi
    have hvi : i < vs.length := by omega
    have hd := dstOk_spec hdk
    have hsame : ∀ t, t ∈ oi.looksAt ops → look tmps t = look (pre { σ with heap := h } as vs i).tmps t := by
      intro t ht
      rw [hlook, (pre_look as vs _ i t hl (by omega)).2]
      congr 1
      have e1 : lastW as vs (fun j => listed.getD j false) t as.length = lastW as vs (fun j => decide (j < i)) t as.length := by
        refine lastW_congr _ fun j hj hdj => ?_
        obtain ⟨oj, hoj⟩ := hsome (show j < ops.size by omega)
        rw [hdst j oj (by omega) hoj] at hdj
        rcases Nat.lt_trichotomy j i with h | h | h
        · simp only [h, decide_true]
          rcases (hord i oi hoi).2 j oj h hoj with ⟨e, he, hb, rfl⟩ | hap
          · exact hw e he hb
          · exact absurd ht ((Oper.apart_spec hap).1 t hdj)
        · subst h; simpa using hLi
        · have : ¬ j < i := by omega
          simp only [this, decide_false]
          rcases hb : listed.getD j false with _ | _
          · rfl
          · exfalso
            rcases (hord j oj hoj).2 i oi h hoi with ⟨e, he, hbe, rfl⟩ | hap
            · have := hcl j (by omega) hb oj e hoj he hbe
              rw [hLi] at this; cases this
            · exact (Oper.apart_spec hap).2.2 t hdj ht
      rw [e1, lastW_above (m := i) _ (by omega) (fun j h1 h2 _ => by simp; omega)]
      exact lastW_congr _ fun j hj _ => by simpa using hj
    -- what is listed behind it
    have hsi : (listed.setIfInBounds i true).getD i false = true := by rw [Array.getD_eq_getD_getElem?]; simp [Array.getElem?_setIfInBounds, hsz, hil]
    have hclN : ∀ j, j < ops.size → (listed.setIfInBounds i true).getD j false = true → ∀ oj e, ops[j]? = some oj → e ∈ oj.after → Region.binds .any e = true → (listed.setIfInBounds i true).getD e.on false = true := by
      intro j hj hLj oj e hoj he hbe
      by_cases hji : i = j
      · subst hji
        rw [hoi] at hoj; cases hoj
        exact getD_set_true (hw e he hbe)
      · rw [getD_set_ne false hji] at hLj
        exact getD_set_true (hcl j hj hLj oj e hoj he hbe)
    have hnoN : ∀ j, n ≤ j → (listed.setIfInBounds i true).getD j false = false := fun j hj => by rw [getD_set_ne false (by omega)]; exact hno j hj
    have hfN : ((List.range ops.size).filter fun j => !(listed.setIfInBounds i true).getD j false).length ≤ fuel := by
      have e3 : ((List.range ops.size).filter fun j => !(listed.setIfInBounds i true).getD j false) = (((List.range ops.size).filter fun j => !listed.getD j false).filter fun j => j != i) := by
        rw [List.filter_filter]
        refine List.filter_congr fun j hj => ?_
        by_cases hji : i = j
        · subst hji
          rw [hsi]; simp
        · rw [getD_set_ne false hji]
          have : (j != i) = true := by simp; omega
          rw [this]; simp
      rw [e3]
      have : (((List.range ops.size).filter fun j => !listed.getD j false).filter fun j => j != i).length < ((List.range ops.size).filter fun j => !listed.getD j false).length := by
        rw [List.length_filter_lt_length_iff_exists]
        exact ⟨i, by rw [List.mem_filter]; exact ⟨List.mem_range.2 hil, by rw [hLi]; rfl⟩, by simp⟩
      omega
    have hlookN : ∀ (vs' : List AV) (v : AV), vs'[i]? = some v → (∀ j, j ≠ i → vs'[j]? = vs[j]?) → ∀ (τ : ASt), τ.tmps = tmps → ∀ t, look (τ.putO oi.dst v).tmps t = (lastW as vs' (fun j => (listed.setIfInBounds i true).getD j false) t as.length).getD (look σ.tmps t) := by
      intro vs' v hvi' hvo τ hτ t
      rw [look_putO, hτ]
      by_cases hdt : oi.dst = some t
      · rw [if_pos hdt]
        have e2 : lastW as vs' (fun j => (listed.setIfInBounds i true).getD j false) t as.length = lastW as vs' (fun j => (listed.setIfInBounds i true).getD j false) t (i + 1) := by
          refine lastW_above _ (by omega) fun j h1 h2 hdj => ?_
          obtain ⟨oj, hoj⟩ := hsome (show j < ops.size by omega)
          rw [hdst j oj (by omega) hoj] at hdj
          rw [getD_set_ne false (by omega)]
          rcases hb : listed.getD j false with _ | _
          · rfl
          · exfalso
            rcases (hord j oj hoj).2 i oi (by omega) hoi with ⟨e, he, hbe, rfl⟩ | hap
            · have := hcl j (by omega) hb oj e hoj he hbe
              rw [hLi] at this; cases this
            · exact (Oper.apart_spec hap).2.1 t hdt hdj
        rw [e2]
        simp only [lastW]
        rw [if_pos ⟨hsi, by rw [hdst i oi hin hoi]; exact hdt⟩, hvi']
        rfl
      · rw [if_neg hdt, hlook]
        congr 1
        have e4 : lastW as vs (fun j => listed.getD j false) t as.length = lastW as vs (fun j => (listed.setIfInBounds i true).getD j false) t as.length := by
          refine lastW_congr _ fun j hj hdj => ?_
          obtain ⟨oj, hoj⟩ := hsome (show j < ops.size by omega)
          rw [hdst j oj (by omega) hoj] at hdj
          have hji : i ≠ j := by rintro rfl; rw [hoi] at hoj; cases hoj; exact hdt hdj
          rw [getD_set_ne false hji]
        rw [e4]
        refine lastW_vals _ fun j hj hdj _ => ?_
        obtain ⟨oj, hoj⟩ := hsome (show j < ops.size by omega)
        rw [hdst j oj (by omega) hoj] at hdj
        have hji : j ≠ i := by rintro rfl; rw [hoi] at hoj; cases hoj; exact hdt hdj
        exact (hvo j hji).symm
    cases hfi : (hs.contains (id, i) || hs.contains (id, 500 + i)) with
    | false =>
      have hfi' : (effFl hs id n)[i]? = some false := by rw [hfget i hin, hfi]
      have htk : hs.contains (id, i) = false := (Bool.or_eq_false_iff.1 hfi).1
      rw [htk] at hao
      have hcop : cop E.P oi.op = some ao := by simpa [copT] using hao
      have hA := hF i _ vs[i] hfi' hai (List.getElem?_eq_getElem hvi)
      have hnext : ∀ a' w' g', RA E B (({ tmps := tmps, heap := h } : ASt).putO oi.dst vs[i]) a' w' g' → wpAny E.P .any ops Qs fuel (listed.setIfInBounds i true) a' w' := by
        intro a' w' g' hR'
        have heq : ({ tmps := tmps, heap := h } : ASt).putO oi.dst vs[i] = { tmps := (({ tmps := tmps, heap := h } : ASt).putO oi.dst vs[i]).tmps, heap := h } := by
          cases oi.dst <;> rfl
        rw [heq] at hR'
        refine ih (listed.setIfInBounds i true) es vs h _ a' w' g' (by simpa using hsz) hclN hnoN hl (fun e => ?_) hsort hv0 hF hC (hlookN vs vs[i] (List.getElem?_eq_getElem hvi) (fun _ _ => rfl) _ rfl) hfN hR'
        rw [hes e]
        by_cases hei : i = e
        · subst hei; rw [hfi', hsi]; simp
        · rw [getD_set_ne false hei]
      have hgo : adop E (pre { σ with heap := h } as vs i).heap ((pre { σ with heap := h } as vs i).ev E) ao (fun x => x = vs[i]) → oi.wp E.P a w (wpAny E.P .any ops Qs fuel (listed.setIfInBounds i true)) Qs := by
        intro hv
        have hev : ∀ x, x ∈ ao.ops → (pre { σ with heap := h } as vs i).ev E x = ({ tmps := tmps, heap := h } : ASt).ev E x := by
          intro x hx
          have hx' := cop_ops hcop x hx
          cases x with
          | tmp t =>
            simp only [ASt.ev]
            rw [hsame t]
            exact List.mem_append_left _ (List.mem_filterMap.2 ⟨.tmp t, hx', rfl⟩)
          | _ => rfl
        rw [adop_congr ao hev, (pre_look as vs _ i 0 hl (by omega)).1] at hv
        refine Oper.wp_mono ?_ (Oper.wp_noQ (adop_sound (σ := { tmps := tmps, heap := h }) (Q := fun _ _ => False) hcop hd hR hv))
        rintro a' w' ⟨σ', g', ⟨v, hv', rfl⟩, hR'⟩
        subst hv'
        exact hnext a' w' g' hR'
      have hskip : vs[i] = .lit undef → wpAny E.P .any ops Qs fuel (listed.setIfInBounds i true) (a.put oi.dst undef) w := by
        intro hu
        refine hnext _ _ g ?_
        rw [hu]
        exact putO_undef hR hd
      unfold wpOp
      simp only [hoi]
      unfold AStep at hA
      cases gd with
      | none =>
        have hgn : oi.guard = none := by
          unfold guardOf at hgd
          split at hgd
          · assumption
          · split at hgd <;> cases hgd
        simp only at hA
        rw [if_pos (by simp [Region.wanted, hgn])]
        exact .inl (hgo hA)
      | some tw =>
        obtain ⟨t, want⟩ := tw
        obtain ⟨h1, h2⟩ := guard_wanted hgd hR
        have htl : t ∈ oi.looksAt ops := by
          unfold guardOf at hgd
          split at hgd
          · cases hgd
          · rename_i jj ww hgg
            split at hgd
            · rename_i t' ht'
              cases hgd
              refine List.mem_append_right _ ?_
              simp [hgg, ht']
            · cases hgd
        simp only at hA
        rw [← hsame t htl] at hA
        split at hA
        · rename_i b hb
          rw [h1 b hb]
          by_cases hbw : b = want
          · rw [if_pos (by simp [hbw])]; exact .inl (hgo (hA.1 hbw))
          · rw [if_neg (by simpa using hbw)]; exact hskip (hA.2 (by cases b <;> cases want <;> first | rfl | exact absurd rfl hbw))
        · rename_i hb
          rw [h2 hb, if_neg (by simp)]; exact hskip hA
        · exact hA.elim
    | true =>
      have hfi' : (effFl hs id n)[i]? = some true := by rw [hfget i hin, hfi]
      -- it is the next that writes
      have hie : i ∈ es := (hes i).2 ⟨hfi', hLi⟩
      cases es with
      | nil => cases hie
      | cons e0 es =>
      have he0 : e0 = i := by
        obtain ⟨h1, h2⟩ := (hes e0).1 (List.mem_cons_self)
        rcases List.mem_cons.1 hie with h | h
        · exact h.symm
        · have hlt0 := (List.pairwise_cons.1 hsort).1 i h
          have := hreach listed hcl i oi e0 hoi hw (hpair e0 i h1 hfi' hlt0)
          rw [h2] at this; cases this
      subst he0
      unfold ach at hC
      rw [hai] at hC
      obtain ⟨hgn, hC⟩ := hC
      simp only at hgn hC
      have hgn' : oi.guard = none := by
        subst hgn
        unfold guardOf at hgd
        split at hgd
        · assumption
        · split at hgd <;> cases hgd
      have hev : ∀ x, x ∈ ao.ops → (pre { σ with heap := h } as vs e0).ev E x = ({ tmps := tmps, heap := h } : ASt).ev E x := by
        intro x hx
        have hx' := copT_ops hao (eop_kind hC) x hx
        cases x with
        | tmp t =>
          simp only [ASt.ev]
          rw [hsame t]
          exact List.mem_append_left _ (List.mem_filterMap.2 ⟨.tmp t, hx', rfl⟩)
        | _ => rfl
      have hC2 := eop_aop (σ := { tmps := tmps, heap := h }) (d := oi.dst) (eop_congr hev hC)
      unfold wpOp
      simp only [hoi]
      rw [if_pos (by simp [Region.wanted, hgn'])]
      refine .inl (Oper.wp_mono ?_ (Oper.wp_noQ (op_sound (Q := fun _ _ => False) hao hd hR hC2)))
      rintro a' w' ⟨σ', g', ⟨h', v, ⟨hst, hC3⟩, rfl⟩, hR'⟩
      have hvset : (vs.set e0 v)[e0]? = some v := by rw [List.getElem?_set_self hvi]
      have hvne : ∀ j, j ≠ e0 → (vs.set e0 v)[j]? = vs[j]? := fun j hj => List.getElem?_set_ne (Ne.symm hj)
      have hfne : ∀ j, (effFl hs id n)[j]? = some false → j ≠ e0 := fun j hj hje => by subst hje; rw [hfi'] at hj; cases hj
      have hv0' : ∀ j, (effFl hs id n)[j]? = some false → (vs.set e0 v)[j]? = v0[j]? := fun j hj => by rw [hvne j (hfne j hj)]; exact hv0 j hj
      have heq : ({ tmps := tmps, heap := h' } : ASt).putO oi.dst v = { tmps := (({ tmps := tmps, heap := h' } : ASt).putO oi.dst v).tmps, heap := h' } := by
        cases oi.dst <;> rfl
      have hR'' : RA E B (({ tmps := tmps, heap := h' } : ASt).putO oi.dst v) a' w' g' := hR'
      rw [heq] at hR''
      obtain ⟨vals, hvl, _, _, hvst, rfl⟩ := aflt_vals as _ _ _ hst
      refine ih (listed.setIfInBounds e0 true) es (vs.set e0 v) h' _ a' w' g' (by simpa using hsz) hclN hnoN (by simpa using hl) (fun e => ?_) (List.pairwise_cons.1 hsort).2 hv0' ?_ hC3 (hlookN _ v hvset hvne _ rfl) hfN hR''
      · constructor
        · intro he
          obtain ⟨h1, h2⟩ := (hes e).1 (List.mem_cons_of_mem _ he)
          have := (List.pairwise_cons.1 hsort).1 e he
          exact ⟨h1, by rw [getD_set_ne false (by omega)]; exact h2⟩
        · rintro ⟨h1, h2⟩
          have hne : e0 ≠ e := by rintro rfl; rw [hsi] at h2; cases h2
          rw [getD_set_ne false hne] at h2
          rcases List.mem_cons.1 ((hes e).2 ⟨h1, h2⟩) with h | h
          · exact absurd h.symm hne
          · exact h
      · intro j o u hfj hoj' huj
        have hjn := hflt hfj
        obtain ⟨oj, hoj⟩ := hsome (show j < ops.size by omega)
        obtain ⟨aoj, gdj, haj, haoj, hgdj, _⟩ := hget j j oj (by rw [List.getElem?_range hjn]) hoj
        rw [haj] at hoj'; cases hoj'
        have htk : hs.contains (id, j) = false := by
          rw [hfget j hjn] at hfj
          cases hx : hs.contains (id, j)
          · rfl
          · rw [hx] at hfj; simp at hfj
        rw [htk] at haoj
        have hcopj : cop E.P oj.op = some aoj := by simpa [copT] using haoj
        have hst' := hvst j _ u hfj haj (by rw [← hv0' j hfj]; exact huj)
        refine AStep_of_looks (ops := ops) hcopj hgdj ?_ (fun t ht => ?_) hst'
        · rw [(pre_look as _ _ j 0 hvl (by omega)).1, (pre_look as _ _ j 0 (by simpa using hl) (by omega)).1]
        · rw [(pre_look as _ _ j t hvl (by omega)).2, (pre_look as _ _ j t (by simpa using hl) (by omega)).2]
          congr 1
          refine lastW_vals _ fun k hk hdk _ => ?_
          obtain ⟨ok, hok⟩ := hsome (show k < ops.size by omega)
          rw [hdst k ok (by omega) hok] at hdk
          cases hfk : (hs.contains (id, k) || hs.contains (id, 500 + k)) with
          | true => exact absurd ht (hnol j oj k ok t hfj hoj (by rw [hfget k (by omega), hfk]) hok hdk)
          | false => exact (hv0' k (by rw [hfget k (by omega), hfk])).symm
end Go.Abs
