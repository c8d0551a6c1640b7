/- Regions whose order is open: the theorem. -/
import Derived.Test.YtenhfnadhmjloaaDoorAbsQ
set_option linter.all false
namespace Go.Abs
open Go Go.RowKit

variable {E : Env} {B : Base} {K : ASt → Prop} {Q : AEx → ASt → Prop}

def AStep (E : Env) (σ : ASt) (o : AOper) (v : AV) : Prop :=
  match o.guard with
  | none => adop E σ.heap (σ.ev E) o.op (fun x => x = v)
  | some (t, want) => match guardIs (look σ.tmps t) with
    | .yes b => (b = want → adop E σ.heap (σ.ev E) o.op (fun x => x = v)) ∧ (b = (!want) → v = .lit undef)
    | .never => v = .lit undef
    | .unknown => False

def pre (σ : ASt) : List AOper → List AV → Nat → ASt
  | _, _, 0 => σ
  | [], _, _ => σ
  | _, [], _ => σ
  | o :: as, v :: vs, i + 1 => pre (σ.putO o.dst v) as vs i

theorem adraw_vals : ∀ (as : List AOper) (σ : ASt), adraw E K as σ → ∃ vals, vals.length = as.length ∧
    (∀ i o v, as[i]? = some o → vals[i]? = some v → AStep E (pre σ as vals i) o v) ∧ K (pre σ as vals as.length)
  | [], σ, h => ⟨[], rfl, fun i o v ho => by simp at ho, h⟩
  | o :: as, σ, h => by
    have main : ∀ v, AStep E σ o v → adraw E K as (σ.putO o.dst v) → ∃ vals, vals.length = (o :: as).length ∧
        (∀ i o' v, (o :: as)[i]? = some o' → vals[i]? = some v → AStep E (pre σ (o :: as) vals i) o' v) ∧ K (pre σ (o :: as) vals (o :: as).length) := by
      intro v hs hr
      obtain ⟨vals, h1, h2, h3⟩ := adraw_vals as _ hr
      refine ⟨v :: vals, by simp [h1], fun i o' v' ho hv => ?_, h3⟩
      cases i with
      | zero => simp at ho hv; subst ho hv; exact hs
      | succ i => simp at ho hv; exact h2 i o' v' ho hv
    simp only [adraw] at h
    unfold AStep at main
    cases hg : o.guard with
    | none =>
      simp only [hg] at h main
      obtain ⟨v, h1, h2⟩ := adop_val h
      exact main v h2 h1
    | some tw =>
      obtain ⟨t, want⟩ := tw
      simp only [hg] at h main
      cases hgi : guardIs (look σ.tmps t) with
      | yes b =>
        simp only [hgi] at h main
        by_cases hb : b = want
        · obtain ⟨v, h1, h2⟩ := adop_val (h.1 (by simpa using hb))
          exact main v ⟨fun _ => h2, fun hb' => by subst hb; cases b <;> cases hb'⟩ h1
        · exact main _ ⟨fun hb' => absurd hb' hb, fun _ => rfl⟩ (h.2 (by simpa using hb))
      | never => simp only [hgi] at h main; exact main _ rfl h
      | unknown => simp only [hgi] at h

/-- The last of the listed operations, below n, that writes t. -/
def lastW (as : List AOper) (vals : List AV) (L : Nat → Bool) (t : Nat) : Nat → Option AV
  | 0 => none
  | n + 1 => if L n = true ∧ (as[n]?).bind (·.dst) = some t then vals[n]? else lastW as vals L t n

theorem lastW_congr {as : List AOper} {vals : List AV} {L L' : Nat → Bool} {t : Nat} : ∀ (n : Nat), (∀ j, j < n → (as[j]?).bind (·.dst) = some t → L j = L' j) → lastW as vals L t n = lastW as vals L' t n
  | 0, _ => rfl
  | n + 1, h => by
    simp only [lastW]
    rw [lastW_congr n fun j hj => h j (by omega)]
    by_cases hd : (as[n]?).bind (·.dst) = some t
    · rw [h n (by omega) hd]
    · rw [if_neg (fun hh => hd hh.2), if_neg (fun hh => hd hh.2)]

theorem lastW_none {as : List AOper} {vals : List AV} {L : Nat → Bool} {t : Nat} : ∀ (n : Nat), (∀ j, j < n → L j = false) → lastW as vals L t n = none
  | 0, _ => rfl
  | n + 1, h => by
    simp only [lastW]
    rw [if_neg (by simp [h n (by omega)]), lastW_none n fun j hj => h j (by omega)]

theorem lastW_above {as : List AOper} {vals : List AV} {L : Nat → Bool} {t m : Nat} : ∀ (n : Nat), m ≤ n → (∀ j, m ≤ j → j < n → (as[j]?).bind (·.dst) = some t → L j = false) → lastW as vals L t n = lastW as vals L t m
  | 0, h, _ => by have : m = 0 := by omega
                  subst this; rfl
  | n + 1, h, hh => by
    by_cases hm : m = n + 1
    · subst hm; rfl
    · simp only [lastW]
      rw [if_neg (fun hx => by have := hh n (by omega) (by omega) hx.2; rw [this] at hx; cases hx.1)]
      exact lastW_above n (by omega) fun j h1 h2 => hh j h1 (by omega)

theorem look_putO {σ : ASt} {d : Option Nat} {v : AV} {t : Nat} : look (σ.putO d v).tmps t = if d = some t then v else look σ.tmps t := by
  cases d with
  | none => simp [ASt.putO]
  | some i =>
    simp only [ASt.putO, ASt.put, look]
    by_cases h : i = t
    · subst h; simp
    · rw [if_neg h, if_neg (by simpa using h)]

theorem heap_putO {σ : ASt} {d : Option Nat} {v : AV} : (σ.putO d v).heap = σ.heap := by cases d <;> rfl

/-- What the state behind the first i operations holds. -/
theorem pre_look : ∀ (as : List AOper) (vals : List AV) (σ : ASt) (i t : Nat), vals.length = as.length → i ≤ as.length →
    (pre σ as vals i).heap = σ.heap ∧ look (pre σ as vals i).tmps t = (lastW as vals (fun _ => true) t i).getD (look σ.tmps t)
  | as, vals, σ, 0, t, _, _ => by cases as <;> cases vals <;> simp [pre, lastW]
  | [], vals, σ, i + 1, t, _, h => by simp at h
  | o :: as, [], σ, i + 1, t, h, _ => by simp at h
  | o :: as, v :: vals, σ, i + 1, t, hl, hi => by
    simp only [List.length_cons] at hl hi
    obtain ⟨h1, h2⟩ := pre_look as vals (σ.putO o.dst v) i t (by omega) (by omega)
    simp only [pre]
    refine ⟨by rw [h1, heap_putO], ?_⟩
    rw [h2, look_putO]
    clear h1 h2
    induction i with
    | zero =>
      simp only [lastW, List.getElem?_cons_zero, Option.bind_some, true_and, Option.getD_none]
      by_cases hd : o.dst = some t
      · rw [if_pos hd, if_pos hd]; rfl
      · rw [if_neg hd, if_neg hd]; rfl
    | succ i ih =>
      have ih := ih (by omega)
      simp only [lastW, true_and, List.getElem?_cons_succ] at ih ⊢
      by_cases hd : (as[i]?).bind (·.dst) = some t
      · rw [if_pos hd, if_pos hd]
        have hv : i < vals.length := by
          cases ha : as[i]? with
          | none => rw [ha] at hd; cases hd
          | some _ => have := (List.getElem?_eq_some_iff.1 ha).1; omega
        rw [List.getElem?_eq_getElem hv]; rfl
      · rw [if_neg hd, if_neg hd]; exact ih

theorem compOps_get {P : Program} {nt : Nat} {hs : Hints} {id : Nat} {ops : Array Oper} : ∀ (l : List Nat) (as : List AOper), compOps P nt hs id ops l = some as → as.length = l.length ∧
    ∀ (j i : Nat) (o : Oper), l[j]? = some i → ops[i]? = some o → ∃ ao gd, as[j]? = some ({ dst := o.dst, op := ao, guard := gd } : AOper) ∧ copT P (hs.contains (id, i)) o.op = some ao ∧ guardOf ops o.guard = some gd ∧ dstOk nt o.dst = true
  | [], as, h => by simp [compOps] at h; subst h; exact ⟨rfl, fun j i o hj => by simp at hj⟩
  | i :: l, as, h => by
    unfold compOps at h
    split at h
    · cases h
    · rename_i o ho
      split at h
      · rename_i ao gd rest hao hgd hrest
        split at h
        · rename_i hd
          cases h
          obtain ⟨h1, h2⟩ := compOps_get l rest hrest
          refine ⟨by simp [h1], fun j i' o' hj ho' => ?_⟩
          cases j with
          | zero => simp at hj; subst hj; rw [ho] at ho'; cases ho'; exact ⟨ao, gd, by simp, hao, hgd, hd⟩
          | succ j => simp at hj; simpa using h2 j i' o' hj ho'
        · cases h
      · cases h


theorem orderOk_spec {ops : Array Oper} (h : orderOk ops = true) : Region.noSelect ops = true ∧ ∀ j oj, ops[j]? = some oj →
    (∀ e ∈ oj.after, Region.binds .any e = true → e.on < j) ∧ ∀ i oi, i < j → ops[i]? = some oi → (∃ e ∈ oj.after, Region.binds .any e = true ∧ e.on = i) ∨ oi.apart ops oj = true := by
  simp only [orderOk, Bool.and_eq_true, List.all_eq_true, List.mem_range] at h
  refine ⟨h.1, fun j oj hj => ?_⟩
  have h1 := h.2 j (Array.getElem?_eq_some_iff.1 hj).1
  simp only [hj, Bool.and_eq_true, List.all_eq_true, List.mem_range] at h1
  refine ⟨fun e he hb => ?_, fun i oi hi hoi => ?_⟩
  · have := Array.all_eq_true_iff_forall_mem.1 h1.1 e he
    simpa [hb] using this
  · have := h1.2 i hi
    simp only [hoi, Bool.or_eq_true] at this
    refine this.imp (fun ha => ?_) id
    obtain ⟨e, he, hb⟩ := Array.any_eq_true'.1 ha
    simp only [Bool.and_eq_true, beq_iff_eq] at hb
    exact ⟨e, he, hb⟩

/-- ONE WALK IN THE TEXT's ORDER SERVES EVERY ORDER. -/
theorem any_sound {ops : Array Oper} {id : Nat} {as : List AOper} {vals : List AV} {σ : ASt} (hc : compOps E.P B.nt [] id ops (List.range ops.size) = some as) (ho : orderOk ops = true)
    (hl : vals.length = as.length) (hst : ∀ i o v, as[i]? = some o → vals[i]? = some v → AStep E (pre σ as vals i) o v) (hK : K (pre σ as vals as.length)) (hKQ : ∀ σ, K σ → Q .normal σ) :
    ∀ (fuel : Nat) (listed : Array Bool) (tmps : List (Nat × AV)) (a : Act) (w : World) (g : Gh), listed.size = ops.size →
      (∀ j, j < ops.size → listed.getD j false = true → ∀ oj e, ops[j]? = some oj → e ∈ oj.after → Region.binds .any e = true → listed.getD e.on false = true) →
      (∀ t, look tmps t = (lastW as vals (fun j => listed.getD j false) t as.length).getD (look σ.tmps t)) →
      ((List.range ops.size).filter fun j => !listed.getD j false).length ≤ fuel →
      RA E B { σ with tmps := tmps } a w g → wpAny E.P .any ops (QC E B Q) fuel listed a w := by
  obtain ⟨hns, hord⟩ := orderOk_spec ho
  obtain ⟨hlen, hget⟩ := compOps_get _ _ hc
  simp only [List.length_range] at hlen
  have hlt : ∀ {j o}, ops[j]? = some o → j < ops.size := fun h => (Array.getElem?_eq_some_iff.1 h).1
  have hsome : ∀ {j}, j < ops.size → ∃ o, ops[j]? = some o := fun h => ⟨_, Array.getElem?_eq_getElem h⟩
  have hdst : ∀ (j : Nat) (o : Oper), ops[j]? = some o → (as[j]?).bind (fun x : AOper => x.dst) = o.dst := fun j o hj => by
    obtain ⟨ao, gd, h1, _⟩ := hget j j o (by rw [List.getElem?_range (hlt hj)]) hj
    simp [h1]
  -- where nothing may come up, all has
  have hdone : ∀ (listed : Array Bool), listed.size = ops.size → Region.ready .any ops listed = [] → ∀ j, j < ops.size → listed.getD j false = true := by
    intro listed hsz hr j
    induction j using Nat.strongRecOn with
    | _ j ih =>
      intro hj
      obtain ⟨oj, hoj⟩ := hsome hj
      rcases hb : listed.getD j false with _ | _
      · exfalso
        have : j ∈ Region.ready .any ops listed := by
          refine mem_ready.2 ⟨?_, oj, hoj, fun e he hbe => ih e.on ((hord j oj hoj).1 e he hbe) (Nat.lt_trans ((hord j oj hoj).1 e he hbe) hj)⟩
          rw [Array.getD_eq_getD_getElem?] at hb ⊢
          have hjl : j < listed.size := by omega
          rw [Array.getElem?_eq_getElem hjl] at hb ⊢
          exact hb
        rw [hr] at this; cases this
      · rfl
  have hfin : ∀ (listed : Array Bool) (tmps : List (Nat × AV)) (a : Act) (w : World) (g : Gh), (∀ j, j < ops.size → listed.getD j false = true) →
      (∀ t, look tmps t = (lastW as vals (fun j => listed.getD j false) t as.length).getD (look σ.tmps t)) → RA E B { σ with tmps := tmps } a w g → QC E B Q .normal a w := by
    intro listed tmps a w g hall hlook hR
    refine ⟨.normal, _, g, hKQ _ hK, rfl, ?_⟩
    refine Weak.ra (σ := { σ with tmps := tmps }) ⟨(pre_look as vals σ as.length 0 hl (Nat.le_refl _)).1, fun t => .inl ?_⟩ hR
    rw [(pre_look as vals σ as.length t hl (Nat.le_refl _)).2]
    simp only [hlook]
    rw [lastW_congr (L' := fun _ => true) _ fun j hj _ => hall j (by omega)]
  intro fuel
  induction fuel with
  | zero =>
    intro listed tmps a w g hsz hcl hlook hf hR
    have hall : ∀ j, j < ops.size → listed.getD j false = true := fun j hj => by
      rcases hb : listed.getD j false with _ | _
      · exfalso
        have : j ∈ ((List.range ops.size).filter fun j => !listed.getD j false) := by rw [List.mem_filter]; exact ⟨List.mem_range.2 hj, by rw [hb]; rfl⟩
        rw [List.length_eq_zero_iff.1 (Nat.le_zero.1 hf)] at this; cases this
      · rfl
    refine ⟨?_, hfin listed tmps a w g hall hlook hR⟩
    apply List.eq_nil_iff_forall_not_mem.2
    intro j hj
    obtain ⟨h1, o, ho, _⟩ := mem_ready.1 hj
    have := hall j (hlt ho)
    rw [Array.getD_eq_getD_getElem?] at h1 this
    rw [Array.getElem?_eq_getElem (by rw [hsz]; exact hlt ho)] at h1 this
    simp at h1 this
    rw [h1] at this; cases this
  | succ fuel ih =>
    intro listed tmps a w g hsz hcl hlook hf hR
    refine ⟨fun hr => hfin listed tmps a w g (hdone listed hsz hr) hlook hR, fun i hi => ?_⟩
    obtain ⟨hun, oi, hoi, hw⟩ := mem_ready.1 hi
    have hil := hlt hoi
    have hLi : listed.getD i false = false := by
      rw [Array.getD_eq_getD_getElem?] at hun ⊢
      rw [Array.getElem?_eq_getElem (by omega)] at hun ⊢
      exact hun
    obtain ⟨ao, gd, hai, hao, hgd, hdk⟩ := hget i i oi (by rw [List.getElem?_range hil]) hoi
    have hvi : i < vals.length := by omega
    have hA := hst i _ vals[i] hai (List.getElem?_eq_getElem hvi)
    have hd := dstOk_spec hdk
    -- what the operation looks at is as in the text's order
    have hsame : ∀ t, t ∈ oi.looksAt ops → look tmps t = look (pre σ as vals i).tmps t := by
      intro t ht
      rw [hlook, (pre_look as vals σ i t hl (by omega)).2]
      congr 1
      have e1 : lastW as vals (fun j => listed.getD j false) t as.length = lastW as vals (fun j => decide (j < i)) t as.length := by
        refine lastW_congr _ fun j hj hdj => ?_
        obtain ⟨oj, hoj⟩ := hsome (show j < ops.size by omega)
        rw [hdst j oj hoj] at hdj
        rcases Nat.lt_trichotomy j i with h | h | h
        · simp only [h, decide_true]
          rcases (hord i oi hoi).2 j oj h hoj with ⟨e, he, hb, rfl⟩ | hap
          · exact hw e he hb
          · exact absurd ht ((Oper.apart_spec hap).1 t hdj)
        · subst h; simpa using hLi
        · have : ¬ j < i := by omega
          simp only [this, decide_false]
          rcases hb : listed.getD j false with _ | _
          · rfl
          · exfalso
            rcases (hord j oj hoj).2 i oi h hoi with ⟨e, he, hbe, rfl⟩ | hap
            · have := hcl j (by omega) hb oj e hoj he hbe
              rw [hLi] at this; cases this
            · exact (Oper.apart_spec hap).2.2 t hdj ht
      rw [e1, lastW_above (m := i) _ (by omega) (fun j h1 h2 _ => by simp; omega)]
      exact lastW_congr _ fun j hj _ => by simpa using hj
    -- the state behind it
    have hnext : ∀ a' w' g', RA E B (({ σ with tmps := tmps } : ASt).putO oi.dst vals[i]) a' w' g' → wpAny E.P .any ops (QC E B Q) fuel (listed.setIfInBounds i true) a' w' := by
      intro a' w' g' hR'
      have heq : ({ σ with tmps := tmps } : ASt).putO oi.dst vals[i] = { σ with tmps := (({ σ with tmps := tmps } : ASt).putO oi.dst vals[i]).tmps } := by
        cases oi.dst <;> rfl
      rw [heq] at hR'
      refine ih (listed.setIfInBounds i true) _ a' w' g' (by simpa using hsz) ?_ ?_ ?_ hR'
      · intro j hj hLj oj e hoj he hbe
        by_cases hji : i = j
        · subst hji
          rw [hoi] at hoj; cases hoj
          exact getD_set_true (hw e he hbe)
        · rw [getD_set_ne false hji] at hLj
          exact getD_set_true (hcl j hj hLj oj e hoj he hbe)
      · intro t
        rw [look_putO]
        by_cases hdt : oi.dst = some t
        · rw [if_pos hdt]
          have e2 : lastW as vals (fun j => (listed.setIfInBounds i true).getD j false) t as.length = lastW as vals (fun j => (listed.setIfInBounds i true).getD j false) t (i + 1) := by
            refine lastW_above _ (by omega) fun j h1 h2 hdj => ?_
            obtain ⟨oj, hoj⟩ := hsome (show j < ops.size by omega)
            rw [hdst j oj hoj] at hdj
            rw [getD_set_ne false (by omega)]
            rcases hb : listed.getD j false with _ | _
            · rfl
            · exfalso
              rcases (hord j oj hoj).2 i oi (by omega) hoi with ⟨e, he, hbe, rfl⟩ | hap
              · have := hcl j (by omega) hb oj e hoj he hbe
                rw [hLi] at this; cases this
              · exact (Oper.apart_spec hap).2.1 t hdt hdj
          rw [e2]
          simp only [lastW]
          rw [if_pos ⟨by rw [Array.getD_eq_getD_getElem?]; simp [Array.getElem?_setIfInBounds, hsz, hil], by rw [hdst i oi hoi]; exact hdt⟩, List.getElem?_eq_getElem hvi]
          rfl
        · rw [if_neg hdt]
          simp only [hlook]
          congr 1
          refine lastW_congr _ fun j hj hdj => ?_
          obtain ⟨oj, hoj⟩ := hsome (show j < ops.size by omega)
          rw [hdst j oj hoj] at hdj
          have hji : i ≠ j := by rintro rfl; rw [hoi] at hoj; cases hoj; exact hdt hdj
          rw [getD_set_ne false hji]
      · have e3 : ((List.range ops.size).filter fun j => !(listed.setIfInBounds i true).getD j false) = (((List.range ops.size).filter fun j => !listed.getD j false).filter fun j => j != i) := by
          rw [List.filter_filter]
          refine List.filter_congr fun j hj => ?_
          by_cases hji : i = j
          · subst hji
            have : (listed.setIfInBounds i true).getD i false = true := by rw [Array.getD_eq_getD_getElem?]; simp [Array.getElem?_setIfInBounds, hsz, hil]
            rw [this]; simp
          · rw [getD_set_ne false hji]
            have : (j != i) = true := by simp; omega
            rw [this]; simp
        rw [e3]
        have : (((List.range ops.size).filter fun j => !listed.getD j false).filter fun j => j != i).length < ((List.range ops.size).filter fun j => !listed.getD j false).length := by
          rw [List.length_filter_lt_length_iff_exists]
          exact ⟨i, by rw [List.mem_filter]; exact ⟨List.mem_range.2 hil, by rw [hLi]; rfl⟩, by simp⟩
        omega
    -- it is carried out, or passed over
    have hcop : cop E.P oi.op = some ao := by simpa [copT] using hao
    have hgo : adop E (pre σ as vals i).heap ((pre σ as vals i).ev E) ao (fun x => x = vals[i]) → oi.wp E.P a w (wpAny E.P .any ops (QC E B Q) fuel (listed.setIfInBounds i true)) (QC E B Q) := by
      intro hv
      have hev : ∀ x, x ∈ ao.ops → (pre σ as vals i).ev E x = ({ σ with tmps := tmps } : ASt).ev E x := by
        intro x hx
        have hx' := cop_ops hcop x hx
        cases x with
        | tmp t =>
          simp only [ASt.ev]
          rw [hsame t]
          exact List.mem_append_left _ (List.mem_filterMap.2 ⟨.tmp t, hx', rfl⟩)
        | _ => rfl
      rw [adop_congr ao hev, (pre_look as vals σ i 0 hl (by omega)).1] at hv
      refine Oper.wp_mono ?_ (adop_sound (Q := Q) hcop hd hR hv)
      rintro a' w' ⟨σ', g', ⟨v, hv', rfl⟩, hR'⟩
      subst hv'
      exact hnext a' w' g' hR'
    have hskip : vals[i] = .lit undef → wpAny E.P .any ops (QC E B Q) fuel (listed.setIfInBounds i true) (a.put oi.dst undef) w := by
      intro hu
      refine hnext _ _ g ?_
      rw [hu]
      exact putO_undef hR hd
    unfold wpOp
    simp only [hoi]
    unfold AStep at hA
    cases gd with
    | none =>
      have hgn : oi.guard = none := by
        unfold guardOf at hgd
        split at hgd
        · assumption
        · split at hgd <;> cases hgd
      simp only at hA
      rw [if_pos (by simp [Region.wanted, hgn])]
      exact .inl (hgo hA)
    | some tw =>
      obtain ⟨t, want⟩ := tw
      obtain ⟨h1, h2⟩ := guard_wanted hgd hR
      have htl : t ∈ oi.looksAt ops := by
        unfold guardOf at hgd
        split at hgd
        · cases hgd
        · rename_i jj ww hgg
          split at hgd
          · rename_i t' ht'
            cases hgd
            refine List.mem_append_right _ ?_
            simp [hgg, ht']
          · cases hgd
      simp only at hA
      rw [← hsame t htl] at hA
      split at hA
      · rename_i b hb
        rw [h1 b hb]
        by_cases hbw : b = want
        · rw [if_pos (by simp [hbw])]; exact .inl (hgo (hA.1 hbw))
        · rw [if_neg (by simpa using hbw)]; exact hskip (hA.2 (by cases b <;> cases want <;> simp_all))
      · rename_i hb
        rw [h2 hb, if_neg (by simp)]; exact hskip hA
      · exact hA.elim

end Go.Abs
