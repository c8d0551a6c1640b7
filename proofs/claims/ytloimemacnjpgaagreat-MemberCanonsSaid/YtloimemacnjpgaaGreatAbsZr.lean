/- From what an argument reads as to what it stands for. -/
import Derived.Test.YtloimemacnjpgaaGreatAbsZ
import Derived.ChangeArms
import Derived.ChangeSame
import GoSem.ClaimJoined
set_option linter.all false
namespace Go.Abs
open Go Go.RowKit

theorem exists_list {α : Type} (R : Nat → α → Prop) : ∀ (n : Nat), (∀ i, i < n → ∃ a, R i a) → ∃ l : List α, l.length = n ∧ ∀ (i : Nat) a, l[i]? = some a → R i a
  | 0, _ => ⟨[], rfl, by simp⟩
  | n + 1, h => by
    obtain ⟨l, hl, hr⟩ := exists_list R n fun i hi => h i (by omega)
    obtain ⟨a, ha⟩ := h n (by omega)
    refine ⟨l ++ [a], by simp [hl], fun i x hx => ?_⟩
    by_cases hi : i < n
    · rw [List.getElem?_append_left (by omega)] at hx; exact hr i x hx
    · rw [List.getElem?_append_right (by omega)] at hx
      have h0 : i - l.length = 0 := by
        rcases Nat.eq_zero_or_pos (i - l.length) with h | h
        · exact h
        · rw [List.getElem?_eq_none (by simp; omega)] at hx; cases hx
      rw [h0] at hx
      simp only [List.getElem?_cons_zero, Option.some.injEq] at hx
      subst hx
      have : i = n := by omega
      rw [this]; exact ha

section
variable {H : Type} (enc : TypeId × Value → H) (P : Program) (W : World)

def RdAt (n : Nat) (t : TypeId) {α : Type} (av : α → AV) (ok : α → Prop) : Prop :=
  ∀ cs x, DataW.trod enc P W 0 (fun _ => true) true n t cs = some x → (x.1.weights P t).all (· ≤ reachBytes) = true → ∃ a, ok a ∧ ∃ v : Value, v.cells.toList = cs ∧ Rep W (Gh.all W) 0 (av a) v

variable {enc} {P} {W}
theorem RdAt.zero {t : TypeId} {α : Type} {av : α → AV} {ok : α → Prop} : RdAt enc P W 0 t av ok := fun cs x h => by simp [DataW.trod] at h
theorem RdAt.mono {n : Nat} {t : TypeId} {α : Type} {av : α → AV} {ok ok' : α → Prop} (h : RdAt enc P W n t av ok) (hi : ∀ a, ok a → ok' a) : RdAt enc P W n t av ok' := fun cs x hx hw => by
  obtain ⟨a, h1, h2⟩ := h cs x hx hw
  exact ⟨a, hi a h1, h2⟩

theorem RdAt.bool {n : Nat} {t : TypeId} (ht : P.underlying t = some .bool) : RdAt enc P W n t (fun b : Bool => .lit (.bool b)) (fun _ => True) := fun cs x h _ => by
  obtain ⟨b, rfl, rfl⟩ := DataW.trod_bool ht h
  exact ⟨b, trivial, .bool b, rfl, by simp [Rep]⟩
theorem RdAt.int {n : Nat} {t : TypeId} {k : IntKind} (ht : P.underlying t = some (.int k)) : RdAt enc P W n t (fun b : Int => .lit (.int k b)) (fun b => (Lit.int k b).wf = true) := fun cs x h _ => by
  obtain ⟨b, rfl, rfl, hw⟩ := DataW.trod_int ht h
  exact ⟨b, hw, .int k b, rfl, by simp [Rep]⟩
theorem RdAt.string {n : Nat} {t : TypeId} (ht : P.underlying t = some .string) : RdAt enc P W n t (fun s : ByteArray => .lit (.string s)) (fun s => s.size ≤ reachBytes) := fun cs x h hw => by
  obtain ⟨s, rfl, rfl, _⟩ := DataW.trod_string ht h
  refine ⟨s, ?_, .string s, rfl, by simp [Rep]⟩
  simp only [DataW.weights, List.all_cons, List.all_nil, Bool.and_true, decide_eq_true_eq] at hw
  simpa using hw

theorem weightsAll_mem {e : TypeId} : ∀ {l : List (DataW H)} {d : DataW H}, (DataW.weightsAll P e l).all (· ≤ reachBytes) = true → d ∈ l → (d.weights P e).all (· ≤ reachBytes) = true
  | x :: l, d, h, hd => by
    simp only [DataW.weightsAll, List.all_append, Bool.and_eq_true] at h
    rcases List.mem_cons.1 hd with rfl | hd
    · exact h.1
    · exact weightsAll_mem h.2 hd

theorem RdAt.slice {n : Nat} {t e : TypeId} {α : Type} {av : α → AV} {ok : α → Prop} (ht : P.underlying t = some (.slice e)) (hc : 0 < P.cellsOf e) (hb : 0 < P.bytesOf e) (hel : RdAt enc P W n e av ok) :
    RdAt enc P W (n + 1) t (fun l : List α => .sl .unk (l.map av)) (fun l => l.length ≤ reachBytes ∧ ∀ a, a ∈ l → ok a) := fun cs x h hw => by
  rcases DataW.trod_slice ht h with ⟨rfl, rfl⟩ | ⟨a, len, cap, elems, rest, m, hm, rfl, rfl, -, hl, hml, hlen, hels, hsp, -⟩
  · refine ⟨[], ⟨by simp, by simp⟩, .slice none 0 0, rfl, ?_⟩
    simp only [Rep]
    exact ⟨none, 0, 0, rfl, rfl, Nat.le_refl _, (fun h => by cases h), fun _ => rfl, fun a h => by cases h⟩
  · obtain rfl : n = m := Nat.succ.inj hm
    simp only [DataW.weights, ht, List.all_cons, List.all_append, Bool.and_eq_true, decide_eq_true_eq, List.length_map] at hw
    obtain ⟨hw1, hw2, -⟩ := hw
    obtain ⟨hsp, hsp2⟩ := hsp rfl
    have hlen2 : len ≤ reachBytes := by
      have : elems.length * 1 ≤ (elems.length + rest.length) * P.bytesOf e := Nat.mul_le_mul (by omega) hb
      omega
    have each : ∀ i, i < len → ∃ b, ok b ∧ ∃ v : Value, Rep W (Gh.all W) 0 (av b) v ∧ v.cells.size = P.cellsOf e ∧ ∀ j u, v.cells.toList[j]? = some u → W.cell? ((a.add (i * P.cellsOf e)).add j) = some u := by
      intro i hi
      have h1 := hels i hi
      obtain ⟨y, hy⟩ : ∃ y, elems[i]? = some y := ⟨_, List.getElem?_eq_getElem (by omega)⟩
      rw [hy, Option.bind_eq_some_iff] at h1
      obtain ⟨c, hc1, hc2⟩ := h1
      obtain ⟨b, hb1, v, hv1, hv2⟩ := hel c y hc2 (weightsAll_mem hw2 (List.mem_map_of_mem (List.mem_of_getElem? hy)))
      obtain ⟨-, hl2, hcell⟩ := World.cells?_some hc1
      refine ⟨b, hb1, v, hv2, by rw [← Array.length_toList, hv1, hl2], fun j u hj => ?_⟩
      have hjl := (List.getElem?_eq_some_iff.1 hj).1
      rw [hcell j (by rw [← hl2, ← hv1]; exact hjl), ← hv1, hj]
    obtain ⟨l, hll, hlr⟩ := exists_list (fun i b => ok b ∧ ∃ v : Value, Rep W (Gh.all W) 0 (av b) v ∧ v.cells.size = P.cellsOf e ∧ ∀ j u, v.cells.toList[j]? = some u → W.cell? ((a.add (i * P.cellsOf e)).add j) = some u) len each
    have hspot : 0 < cap → a.spot = none := by
      intro h0
      have : ∃ c, W.cells? 0 (a.add 0) (P.cellsOf e) = some c := by
        by_cases hl0 : 0 < len
        · have h1 := hels 0 hl0
          obtain ⟨y, hy⟩ : ∃ y, elems[0]? = some y := ⟨_, List.getElem?_eq_getElem (by omega)⟩
          rw [hy, Option.bind_eq_some_iff, Nat.zero_mul] at h1
          exact ⟨_, h1.choose_spec.1⟩
        · have h1 := hsp2 0 (by omega)
          obtain ⟨y, hy⟩ : ∃ y, rest[0]? = some y := ⟨_, List.getElem?_eq_getElem (by omega)⟩
          rw [hy, Option.bind_eq_some_iff, show len + 0 = 0 by omega, Nat.zero_mul] at h1
          exact ⟨_, h1.choose_spec.1⟩
      obtain ⟨c, hc1⟩ := this
      obtain ⟨-, hl2, hcell⟩ := World.cells?_some hc1
      have h2 := hcell 0 hc
      obtain ⟨u, hu⟩ : ∃ u, c[0]? = some u := ⟨_, List.getElem?_eq_getElem (by omega)⟩
      rw [hu] at h2
      simpa [Addr.add] using World.cell?_spot h2
    refine ⟨l, ⟨by omega, fun b hb => ?_⟩, .slice (some a) len cap, rfl, ?_⟩
    · obtain ⟨i, hi⟩ := List.getElem?_of_mem hb
      exact (hlr i b hi).1
    · simp only [Rep]
      refine ⟨some a, len, cap, rfl, by simp [hll], hl, (fun h => by cases h), (fun h => by cases h), fun a' ha => ?_⟩
      cases ha
      refine ⟨hspot, P.cellsOf e, Els.of_get fun i x hx => ?_⟩
      simp only [List.getElem?_map, Option.map_eq_some_iff] at hx
      obtain ⟨b, hb, rfl⟩ := hx
      have hi : i < len := by rw [← hll]; exact (List.getElem?_eq_some_iff.1 hb).1
      obtain ⟨-, v, hv1, hv2, hv3⟩ := hlr i b hb
      refine ⟨v, hv1, hv2, holds_all fun j u hj => ?_⟩
      have h1 := hv3 j u hj
      have hsp0 := hspot (by omega)
      have e1 : (a.add (i * P.cellsOf e)).add j = ⟨a.block, a.off + i * P.cellsOf e + j, none⟩ := by
        obtain ⟨b, o, s⟩ := a
        simp only at hsp0
        subst hsp0
        unfold Addr.add
        split <;> split <;> simp_all <;> omega
      rw [e1] at h1
      exact h1

def onesIs (P : Program) (t : TypeId) (tys : List TypeId) : Bool :=
  match P.underlying t with
  | some (.struct fs) => decide (fs.toList.map (fun f => (f.type, f.offset, P.cellsOf f.type)) = (tys.zipIdx.map fun p => (p.1, p.2, 1))) && decide (P.cellsOf t = tys.length)
  | _ => false

theorem weightsEach_get : ∀ {ts : List TypeId} {l : List (DataW H)} {i : Nat} {t : TypeId} {d : DataW H}, (DataW.weightsEach P ts l).all (· ≤ reachBytes) = true → ts[i]? = some t → l[i]? = some d → (d.weights P t).all (· ≤ reachBytes) = true
  | [], _, i, t, d, _, ht, _ => by simp at ht
  | _ :: _, [], i, t, d, _, _, hd => by simp at hd
  | t' :: ts, d' :: l, 0, t, d, h, ht, hd => by
    simp only [List.getElem?_cons_zero, Option.some.injEq] at ht hd
    subst ht hd
    simp only [DataW.weightsEach, List.all_append, Bool.and_eq_true] at h
    exact h.1
  | t' :: ts, d' :: l, i + 1, t, d, h, ht, hd => by
    simp only [List.getElem?_cons_succ] at ht hd
    simp only [DataW.weightsEach, List.all_append, Bool.and_eq_true] at h
    exact weightsEach_get h.2 ht hd

theorem trod_ones {n : Nat} {t : TypeId} {tys : List TypeId} (hs : onesIs P t tys = true) {cs : List Value} {x : DataW H × List MemPlace} (h : DataW.trod enc P W 0 (fun _ => true) true n t cs = some x)
    (hw : (x.1.weights P t).all (· ≤ reachBytes) = true) :
    ∃ m, n = m + 1 ∧ cs.length = tys.length ∧ ∀ (i : Nat) ft, tys[i]? = some ft → ∃ c y, cs[i]? = some c ∧ DataW.trod enc P W 0 (fun _ => true) true m ft [c] = some y ∧ (y.1.weights P ft).all (· ≤ reachBytes) = true := by
  unfold onesIs at hs
  split at hs
  · rename_i fs hu
    rw [Bool.and_eq_true, decide_eq_true_eq, decide_eq_true_eq] at hs
    obtain ⟨hf, hct⟩ := hs
    obtain ⟨xs, m, rfl, rfl, hcl, hxl, hget⟩ := DataW.trod_struct hu h
    refine ⟨m, rfl, by rw [hcl, hct], fun i ft hi => ?_⟩
    have hil := (List.getElem?_eq_some_iff.1 hi).1
    have hfi := congrArg (fun l => l[i]?) hf
    simp only [List.getElem?_map, List.getElem?_zipIdx, hi, Option.map_some, Nat.zero_add] at hfi
    obtain ⟨f, hff, hfe⟩ := Option.map_eq_some_iff.1 hfi
    simp only [Prod.mk.injEq] at hfe
    obtain ⟨h1, h2, h3⟩ := hfe
    have hg := hget i f (by simpa using hff)
    rw [h1, h2] at hg
    rw [h1] at h3
    rw [h3] at hg
    obtain ⟨c, hc⟩ : ∃ c, cs[i]? = some c := ⟨_, List.getElem?_eq_getElem (by omega)⟩
    have hd : (cs.drop i).take 1 = [c] := by
      rw [List.drop_eq_getElem_cons (by omega), List.take_succ_cons, List.take_zero]
      rw [(List.getElem?_eq_some_iff.1 hc).2]
    rw [hd] at hg
    obtain ⟨y, hy⟩ : ∃ y, xs[i]? = some y := ⟨_, List.getElem?_eq_getElem (by
      have := congrArg List.length hf
      simp at this; rw [hxl]; omega)⟩
    rw [hy] at hg
    refine ⟨c, y, hc, hg, ?_⟩
    simp only [DataW.weights, hu] at hw
    exact weightsEach_get hw (i := i) (by rw [List.getElem?_map, hff, Option.map_some, h1]) (by rw [List.getElem?_map, hy]; rfl)
  · cases hs

theorem RdAt.one {m : Nat} {t : TypeId} {α : Type} {av : α → AV} {ok : α → Prop} (h : RdAt enc P W m t av ok) (hs : ∀ a, (av a).sure = true ∧ (av a).cells = [av a]) {c : Value} {y : DataW H × List MemPlace}
    (hc : DataW.trod enc P W 0 (fun _ => true) true m t [c] = some y) (hw : (y.1.weights P t).all (· ≤ reachBytes) = true) : ∃ a, ok a ∧ Rep W (Gh.all W) 0 (av a) c := by
  obtain ⟨a, h1, v, hv, hr⟩ := h _ _ hc hw
  have := Rep.cells (hs a).1 hr
  rw [hv, (hs a).2] at this
  exact ⟨a, h1, (Reps.cons'.1 this).1⟩
end
end Go.Abs
