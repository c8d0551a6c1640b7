/- append. -/
import Derived.Test.YtenhfnadhmjloaaDoorAbsJ
set_option linter.all false
namespace Go.Abs
open Go Go.RowKit

theorem Els.fit {w g n k k'} {es : List AV} {b off : Nat} (h : Els w g n es b off k') (hf : Fit k es) : Els w g n es b off k := by
  cases es with
  | nil => simp [Els]
  | cons e es =>
    have : k' = k := by
      obtain ⟨v, h5, h6, _⟩ := h.get 0 e (by simp)
      obtain ⟨h7, h8⟩ := hf e (by simp)
      have := (h5.cells h7).length
      simp at this; omega
    rwa [this] at h

/-- What is known of a slice that may be appended to. -/
theorem own_open {w g n i c k es v} (hc : c = .own k ∨ (c = .full ∧ Fit k es)) (hr : Rep w g n (.sl c es) v) (hs : SpareOk w g n (.tmp i) (.sl c es) v) :
    ∃ base cap, v = .slice base es.length cap ∧ es.length ≤ cap ∧ (base = none → cap = 0) ∧ ∀ a, base = some a → a.spot = none ∧ Els w g n es a.block a.off k ∧
      ∀ q, es.length * k ≤ q → q < cap * k → g.own a.block (a.off + q) = .sp (.tmp i) ∧ (∃ u, w.cell? ⟨a.block, a.off + q, none⟩ = some u) ∧ w.frozen? ⟨a.block, a.off + q, none⟩ = false := by
  simp only [Rep] at hr
  obtain ⟨base, len, cap, rfl, h1, h2, h3, h4, h5⟩ := hr
  subst h1
  refine ⟨base, cap, rfl, h2, h4, fun a ha => ?_⟩
  subst ha
  obtain ⟨h6, k', h7⟩ := h5 a rfl
  refine ⟨h6, ?_⟩
  rcases hc with rfl | ⟨rfl, hf⟩
  · simp only [SpareOk] at hs
    exact ⟨hs.2.1, hs.2.2⟩
  · refine ⟨h7.fit hf, fun q hq1 hq2 => ?_⟩
    rw [h3 rfl] at hq2
    omega

/-- The slot i's slice has room: the new elements are written behind it. -/
theorem RA.appendIn {E B σ a w g} (h : RA E B σ a w g) {i k : Nat} {c : Cap} {es xs : List AV} {b off cap : Nat} {vs : List Value} (hi : i < B.nt) (hk : 0 < k)
    (hlook : look σ.tmps i = .sl c es) (hc : c = .own k ∨ (c = .full ∧ Fit k es)) (hv : a.tmps.getD i undef = .slice (some ⟨b, off, none⟩) es.length cap)
    (hf : Fit k xs) (ho : ∀ e ∈ xs, e.cells.all AV.one = true) (hR : Reps w g σ.heap.length (flatC xs) vs) (hroom : es.length + xs.length ≤ cap) :
    vs.length = xs.length * k ∧ (∀ j, j < vs.length → (∃ u, w.cell? ⟨b, off + es.length * k + j, none⟩ = some u) ∧ w.frozen? ⟨b, off + es.length * k + j, none⟩ = false) ∧
    ∃ g', RA E B { σ with tmps := (i, .sl (.own k) (es ++ xs)) :: σ.tmps } (a.put (some i) (.slice (some ⟨b, off, none⟩) (es.length + xs.length) cap)) (setRow w b (off + es.length * k) vs) g' := by
  have hvl : vs.length = xs.length * k := by
    rw [hR.length]
    clear hR hroom ho
    induction xs with
    | nil => simp [flatC]
    | cons x xs ih =>
      have h1 := hf x (by simp)
      have h2 := ih (fun e he => hf e (by simp [he]))
      simp only [flatC, List.flatMap_cons, List.length_append, List.length_cons, Nat.add_mul, Nat.one_mul] at h2 ⊢
      rw [h2, h1.2]; omega
  obtain ⟨hr0, hs0⟩ := h.tmps i
  rw [hlook, hv] at hr0 hs0
  obtain ⟨base, cap', heq, hle, _, hopen⟩ := own_open hc hr0 hs0
  injection heq with e1 _ e3
  subst e1 e3
  obtain ⟨_, hels, hsp⟩ := hopen _ rfl
  simp only at hels hsp
  have hmul : (es.length + xs.length) * k ≤ cap * k := Nat.mul_le_mul_right k hroom
  have hadd : (es.length + xs.length) * k = es.length * k + xs.length * k := Nat.add_mul _ _ _
  have hin : ∀ j, j < vs.length → g.own b (off + es.length * k + j) = .sp (.tmp i) ∧ (∃ u, w.cell? ⟨b, off + es.length * k + j, none⟩ = some u) ∧ w.frozen? ⟨b, off + es.length * k + j, none⟩ = false := fun j hj => by
    have := hsp (es.length * k + j) (by omega) (by omega)
    rw [← Nat.add_assoc] at this
    exact this
  refine ⟨hvl, fun j hj => (hin j hj).2, ?_⟩
  let g' : Gh := { g with own := fun b' o => if b' = b ∧ off + es.length * k ≤ o ∧ o < off + es.length * k + vs.length then .com else g.own b' o }
  have hg'in : ∀ j, j < vs.length → g'.own b (off + es.length * k + j) = .com := fun j hj => if_pos ⟨rfl, Nat.le_add_right _ _, by omega⟩
  have hg'out : ∀ b' o, ¬ (b' = b ∧ off + es.length * k ≤ o ∧ o < off + es.length * k + vs.length) → g'.own b' o = g.own b' o := fun b' o hh => if_neg hh
  have hnot : ∀ b' o, g.own b' o ≠ .sp (.tmp i) → ¬ (b' = b ∧ off + es.length * k ≤ o ∧ o < off + es.length * k + vs.length) := fun b' o hne ⟨h1, h2, h3⟩ => by
    subst h1
    have := (hin (o - (off + es.length * k)) (by omega)).1
    rw [show off + es.length * k + (o - (off + es.length * k)) = o by omega] at this
    exact hne this
  obtain ⟨m1, m2, m3, m4, m5⟩ := setRow_misc vs w b (off + es.length * k)
  -- the block
  have hblk : vs = [] ∨ ∃ cs e lo hi, w.heap[b]? = some (.cells cs e (lo, hi)) ∧ off + es.length * k + vs.length ≤ cs.size := by
    rcases Nat.eq_zero_or_pos vs.length with h0 | h0
    · exact .inl (List.length_eq_zero_iff.1 h0)
    · right
      obtain ⟨_, ⟨u, hu⟩, _⟩ := hin (vs.length - 1) (by omega)
      unfold World.cell? at hu
      simp only at hu
      split at hu
      · rename_i cs e fr heq
        refine ⟨cs, e, fr.1, fr.2, heq, ?_⟩
        simp at hu
        have := (Array.getElem?_eq_some_iff.1 hu).1
        omega
      · cases hu
  have hcell : ∀ b' o, ¬ (b' = b ∧ off + es.length * k ≤ o ∧ o < off + es.length * k + vs.length) → (setRow w b (off + es.length * k) vs).cell? ⟨b', o, none⟩ = w.cell? ⟨b', o, none⟩ := fun b' o hh => by
    by_cases hb : b' = b
    · subst hb
      rcases hblk with h0 | ⟨cs, e, lo, hi', hbk, hsz⟩
      · subst h0; rfl
      · obtain ⟨c', h6, h7, h8, _⟩ := setRow_block vs w b' (off + es.length * k) cs e (lo, hi') hbk hsz
        rw [cell_of_heap h6, cell_of_heap hbk, h8 o (by omega)]
    · exact World.cell?_of_block (w := w) (m5 b' hb)
  have hfro : ∀ b' o, (setRow w b (off + es.length * k) vs).frozen? ⟨b', o, none⟩ = w.frozen? ⟨b', o, none⟩ := fun b' o => by
    by_cases hb : b' = b
    · subst hb
      rcases hblk with h0 | ⟨cs, e, lo, hi', hbk, hsz⟩
      · subst h0; rfl
      · obtain ⟨c', h6, _⟩ := setRow_block vs w b' (off + es.length * k) cs e (lo, hi') hbk hsz
        rw [frozen_of_block h6, frozen_of_block hbk]
    · exact World.frozen?_of_block (w := w) (m5 b' hb)
  have hlater : Later w g σ.heap.length (setRow w b (off + es.length * k) vs) g' σ.heap.length := by
    refine ⟨Nat.le_refl _, fun _ _ => rfl, fun b' o u hcu hcom => ?_⟩
    have hn := hnot b' o (by rw [hcom]; simp)
    exact ⟨by rw [hcell _ _ hn]; exact hcu, by rw [hg'out _ _ hn]; exact hcom⟩
  have hks : ∀ s, s ≠ .tmp i → KeepsSp w g (setRow w b (off + es.length * k) vs) g' s := fun s hs b' o u ho' hcu hf' => by
    have hn := hnot b' o (by rw [ho']; simpa using hs)
    exact ⟨by rw [hg'out _ _ hn]; exact ho', ⟨u, by rw [hcell _ _ hn]; exact hcu⟩, by rw [hfro]; exact hf'⟩
  have hstable : Stable w g σ.heap.length (setRow w b (off + es.length * k) vs) g' := by
    refine ⟨by rw [m4]; exact Nat.le_refl _, m1, m2, m3, fun b' hb' hall => ?_, fun b' c2 e2 fr2 hcc => ?_, fun b' o hb' => ⟨fun hn => ?_, fun hn => ?_⟩, fun _ _ => rfl⟩
    · by_cases hb : b' = b
      · subst hb
        rcases Nat.eq_zero_or_pos vs.length with h0 | h0
        · have := List.length_eq_zero_iff.1 h0; subst this; rfl
        · exfalso
          have := (hin 0 h0).1
          rcases hall (off + es.length * k + 0) with h' | h' <;> rw [this] at h' <;> cases h'
      · exact m5 b' hb
    · by_cases hb : b' = b
      · subst hb
        rcases hblk with h0 | ⟨cs, e, lo, hi', hbk, hsz⟩
        · subst h0; exact ⟨c2, fr2, hcc, rfl, fun _ _ => ⟨rfl, rfl⟩⟩
        · rw [hbk] at hcc
          cases hcc
          obtain ⟨c', h6, h7, h8, _⟩ := setRow_block vs w b' (off + es.length * k) _ _ _ hbk hsz
          refine ⟨c', _, h6, h7, fun o ho' => ⟨rfl, h8 o ?_⟩⟩
          have := hnot b' o (by rcases ho' with ho' | ho' <;> rw [ho'] <;> simp)
          omega
      · exact ⟨c2, fr2, by rw [m5 b' hb]; exact hcc, rfl, fun _ _ => ⟨rfl, rfl⟩⟩
    · rw [hg'out _ _ (hnot b' o (by rw [hn]; simp))]; exact hn
    · rw [hg'out _ _ (hnot b' o (by rw [hn]; simp))]; exact hn
  have hgok : GOk (setRow w b (off + es.length * k) vs) g' := fun b' o hne => by
    rw [m4]
    by_cases hh : b' = b ∧ off + es.length * k ≤ o ∧ o < off + es.length * k + vs.length
    · obtain ⟨rfl, h1, h2⟩ := hh
      obtain ⟨h3, _⟩ := hin (o - (off + es.length * k)) (by omega)
      rw [show off + es.length * k + (o - (off + es.length * k)) = o by omega] at h3
      exact h.gok b' o (by rw [h3]; simp)
    · rw [hg'out _ _ hh] at hne; exact h.gok b' o hne
  have hHolds : Holds (setRow w b (off + es.length * k) vs) g' b (off + es.length * k) vs := fun j u hj => by
    have hjl : j < vs.length := (List.getElem?_eq_some_iff.1 hj).1
    refine ⟨?_, hg'in j hjl⟩
    rcases hblk with h0 | ⟨cs, e, lo, hi', hbk, hsz⟩
    · subst h0; simp at hj
    · obtain ⟨c', h6, _, _, h9⟩ := setRow_block vs w b (off + es.length * k) cs e (lo, hi') hbk hsz
      rw [cell_of_heap h6, h9 j hjl]; exact hj
  have hEls : Els (setRow w b (off + es.length * k) vs) g' σ.heap.length (es ++ xs) b off k :=
    Els.append (Els.later hlater _ _ _ _ hels) (Els.of_flat hf ho hHolds (Reps.later hlater _ _ hR))
  refine ⟨g', by simp [Act.put]; exact h.nt, hgok, h.gl.later hlater.to_zero, fun j => ?_, fun id l hl => ?_, h.st.trans hstable h.n0, h.n0, by simp [Act.put]; exact h.defers⟩
  · rw [getD_put (by rw [h.nt]; exact hi)]
    by_cases hj : i = j
    · subst hj
      rw [look_cons_same, if_pos rfl]
      refine ⟨?_, ?_⟩
      · simp only [Rep]
        exact ⟨_, _, _, rfl, by simp, hroom, (fun hh => by cases hh), (fun hh => by cases hh), fun a' ha' => by cases ha'; exact ⟨rfl, k, hEls⟩⟩
      · simp only [SpareOk]
        refine ⟨hk, hEls, fun q hq1 hq2 => ?_⟩
        have hq := hsp q (by omega) hq2
        have hn : ¬ (b = b ∧ off + es.length * k ≤ off + q ∧ off + q < off + es.length * k + vs.length) := by omega
        refine ⟨by rw [hg'out _ _ hn]; exact hq.1, ?_, by rw [hfro]; exact hq.2.2⟩
        obtain ⟨u, hu⟩ := hq.2.1
        exact ⟨u, by rw [hcell _ _ hn]; exact hu⟩
    · rw [look_cons_ne hj, if_neg hj]
      refine ⟨(h.tmps j).1.later hlater, (h.tmps j).2.later hlater (hks _ ?_)⟩
      intro hh; cases hh; exact hj rfl
  · obtain ⟨cs, e, hc'⟩ := h.heap id l hl
    have hid : id < σ.heap.length := by
      rcases Nat.lt_or_ge id σ.heap.length with h' | h'
      · exact h'
      · rw [List.getElem?_eq_none h'] at hl; cases hl
    have hobj : ∀ o, ¬ (g.loc id = b ∧ off + es.length * k ≤ o ∧ o < off + es.length * k + vs.length) := fun o => hnot _ o (by rw [hc'.own]; simp)
    refine ⟨cs, e, hc'.step hid hlater ?_ (fun o => hg'out _ _ (hobj o)) (fun j => hks _ (by simp))⟩
    by_cases hb : g.loc id = b
    · rcases Nat.eq_zero_or_pos vs.length with h0 | h0
      · have := List.length_eq_zero_iff.1 h0; subst this; rfl
      · exact absurd ⟨hb, Nat.le_refl _, by omega⟩ (hobj (off + es.length * k))
    · exact m5 _ hb

/-- A world with one more block. -/
structure Pushed (w w' : World) (o : Obj) : Prop where
  heap : w'.heap = w.heap.push o
  os : w'.os = w.os
  output : w'.output = w.output
  tape : w'.tape = w.tape

theorem grown_push {w w' g n o} (hp : Pushed w w' o) (hk : GOk w g) (f : Nat → Own) : Grown w g n w' (g.new w.heap.size f) where
  size := by rw [hp.heap]; simp
  os := hp.os
  output := hp.output
  tape := hp.tape
  blk := fun b hb => by rw [hp.heap, Array.getElem?_push, if_neg (by omega)]
  own := fun b off hb => by simp only [Gh.new]; rw [if_neg (by omega)]
  loc := fun _ _ => rfl
  gok := fun b off ho => by
    rw [hp.heap]
    simp only [Gh.new] at ho
    split at ho
    · simp_all
    · have := hk b off ho; simp; omega

/-- There is no room: all goes to a new block. -/
theorem RA.appendNew {E B σ a w g} (h : RA E B σ a w g) {i k cap : Nat} {ys : List AV} {vs : List Value} {e : TypeId} (hi : i < B.nt) (hk : 0 < k)
    (hEl : ∀ w' g' b, Later w g σ.heap.length w' g' σ.heap.length → Holds w' g' b 0 vs → Els w' g' σ.heap.length ys b 0 k)
    (hvl : vs.length = ys.length * k) (hroom : ys.length ≤ cap) (rest : List Value) (hrest : vs.length + rest.length = cap * k) {w' : World} {lo hi' : Nat} (hfr : cap * k ≤ lo ∨ hi' = 0)
    (hp : Pushed w w' (.cells (vs ++ rest).toArray e (lo, hi'))) :
    ∃ g', RA E B { σ with tmps := (i, .sl (.own k) ys) :: σ.tmps } (a.put (some i) (.slice (some ⟨w.heap.size, 0, none⟩) ys.length cap)) w' g' := by
  obtain ⟨g1, h0, hlater0, hcl⟩ := h.clear i
  let f : Nat → Own := fun o => if o < vs.length then .com else if o < cap * k then .sp (.tmp i) else .none
  have hg : Grown w g1 σ.heap.length w' (g1.new w.heap.size f) := grown_push hp h0.gok f
  have h1 := h0.grow' hg
  have hnew : w'.heap[w.heap.size]? = some (.cells (vs ++ rest).toArray e (lo, hi')) := by rw [hp.heap]; simp
  have hH : Holds w' (g1.new w.heap.size f) w.heap.size 0 vs := fun j u hj => by
    have hjl : j < vs.length := (List.getElem?_eq_some_iff.1 hj).1
    refine ⟨?_, by simp [Gh.new, f, hjl]⟩
    rw [cell_of_heap hnew]
    simp [List.getElem?_append_left hjl, hj]
  have hE := hEl _ _ _ (hlater0.trans (hg.later (Nat.le_refl _))) hH
  refine ⟨g1.new w.heap.size f, ?_⟩
  have h2 := RA.put (d := i) (av := .sl (.own k) ys) (v := .slice (some ⟨w.heap.size, 0, none⟩) ys.length cap) h1 hi ?_ ?_
  · refine ⟨h2.nt, h2.gok, h2.gl, fun j => ?_, h2.heap, h2.st, h2.n0, h2.defers⟩
    have := h2.tmps j
    simp only [ASt.put] at this
    by_cases hj : i = j
    · subst hj; simpa [look] using this
    · simpa [look, hj] using this
  · simp only [Rep]
    exact ⟨_, _, _, rfl, rfl, hroom, (fun hh => by cases hh), (fun hh => by cases hh), fun a' ha' => by cases ha'; exact ⟨rfl, k, hE⟩⟩
  · simp only [SpareOk]
    refine ⟨hk, hE, fun q hq1 hq2 => ⟨?_, ?_, ?_⟩⟩
    · simp only [Gh.new, if_true, f, Nat.zero_add]
      rw [if_neg (by omega), if_pos hq2]
    · rw [cell_of_heap hnew]
      have hql : q < (vs ++ rest).toArray.size := by simp; omega
      exact ⟨_, Array.getElem?_eq_getElem (by simpa using hql)⟩
    · rw [frozen_of_block hnew]; simp; omega

end Go.Abs
