/- Ownership handed on; append. -/
import Derived.Test.YtgbedffflggenaaDoorAbsH
set_option linter.all false
namespace Go.Abs
open Go Go.RowKit

def Gh.re (g : Gh) (f : Slot → Own) : Gh := { g with own := fun b off => match g.own b off with | .sp s => f s | o => o }

theorem re_com {g : Gh} {f} {b off} (h : g.own b off = .com) : (g.re f).own b off = .com := by simp [Gh.re, h]
theorem re_none {g : Gh} {f} {b off} (h : g.own b off = .none) : (g.re f).own b off = .none := by simp [Gh.re, h]
theorem re_obj {g : Gh} {f} {b off i} (h : g.own b off = .obj i) : (g.re f).own b off = .obj i := by simp [Gh.re, h]
theorem re_sp {g : Gh} {f} {b off s} (h : g.own b off = .sp s) : (g.re f).own b off = f s := by simp [Gh.re, h]

theorem later_re {w g n f} : Later w g n w (g.re f) n := ⟨Nat.le_refl _, fun _ _ => rfl, fun _ _ _ h h' => ⟨h, re_com h'⟩, fun _ _ h h' => ⟨h, fun off => re_com (h' off)⟩⟩

theorem SpareOk.re {w g n s s' f av v} (hf : f s = .sp s') (h : SpareOk w g n s av v) : SpareOk w (g.re f) n s' av v := by
  cases av <;> try exact trivial
  rename_i c es
  cases c <;> try exact trivial
  rename_i k
  cases v <;> try exact trivial
  rename_i a len cap
  cases a <;> try exact trivial
  rename_i a
  simp only [SpareOk] at h ⊢
  obtain ⟨h0, h1, h2⟩ := h
  refine ⟨h0, Els.later later_re _ _ _ _ h1, fun q hq1 hq2 => ?_⟩
  obtain ⟨h3, h4, h5⟩ := h2 q hq1 hq2
  exact ⟨by rw [re_sp h3]; exact hf, h4, h5⟩

def moveSp (s s' : Slot) (x : Slot) : Own := if x = s then .sp s' else if x = s' then .none else .sp x

theorem moveSp_same (s s' : Slot) : moveSp s s' s = .sp s' := by simp [moveSp]
theorem moveSp_other {s s' x : Slot} (h : x ≠ s) (h' : x ≠ s') : moveSp s s' x = .sp x := by simp [moveSp, h, h']

theorem GOk.re {w g s s'} (h : GOk w g) : GOk w (g.re (moveSp s s')) := fun b off ho => by
  refine h b off fun hn => ho (re_none hn)

theorem Stable.re {w0 g0 n0 w g f} (h : Stable w0 g0 n0 w g) : Stable w0 g0 n0 w (g.re f) where
  size := h.size
  os := h.os
  output := h.output
  tape := h.tape
  blk := h.blk
  cel := h.cel
  own := fun b off hb => ⟨fun ho => re_none ((h.own b off hb).1 ho), fun ho => re_com ((h.own b off hb).2 ho)⟩
  loc := h.loc

theorem CellsOk.re {w g n id l vs e s s'} (h : CellsOk w g n id l vs e) (h1 : ∀ j, s ≠ .cell id j) (h2 : ∀ j, s' ≠ .cell id j) : CellsOk w (g.re (moveSp s s')) n id l vs e where
  blk := h.blk
  own := fun off => re_obj (h.own off)
  size := h.size
  rep := fun j av hj => let ⟨v, h3, h4, h5⟩ := h.rep j av hj; ⟨v, h3, h4.later later_re, h5.re (moveSp_other (Ne.symm (h1 j)) (Ne.symm (h2 j)))⟩
  bp := h.bp
  buf := fun j te b hj => let ⟨v, h3, h4, h5⟩ := h.buf j te b hj; ⟨v, h3, h4, fun k hv off => by rw [re_sp (h5 k hv off)]; exact moveSp_other (Ne.symm (h1 j)) (Ne.symm (h2 j))⟩

theorem HeapOk.re {w g h t d} (hh : HeapOk w g h) : HeapOk w (g.re (moveSp (.tmp t) (.tmp d))) h := fun id l hl =>
  let ⟨vs, e, hc⟩ := hh id l hl
  ⟨vs, e, hc.re (fun _ hh => by cases hh) (fun _ hh => by cases hh)⟩

/-- The slot t's value, and its room, goes to slot d. -/
theorem RA.take {E B σ a w g} (h : RA E B σ a w g) {t d : Nat} (hd : d < B.nt) (htd : t ≠ d) :
    RA E B { σ with tmps := (d, look σ.tmps t) :: (t, (look σ.tmps t).strip) :: σ.tmps } (a.put (some d) (a.tmps.getD t undef)) w (g.re (moveSp (.tmp t) (.tmp d))) where
  nt := by simp [Act.put]; exact h.nt
  gok := h.gok.re
  gl := h.gl.later (later_re (n := 0))
  heap := h.heap.re
  st := h.st.re
  n0 := h.n0
  defers := by simp [Act.put]; exact h.defers
  tmps := fun i => by
    rw [getD_put (by rw [h.nt]; exact hd)]
    by_cases hi : d = i
    · subst hi
      rw [look_cons_same, if_pos rfl]
      exact ⟨(h.tmps t).1.later later_re, (h.tmps t).2.re (moveSp_same _ _)⟩
    · rw [look_cons_ne hi, if_neg hi]
      by_cases hi2 : t = i
      · subst hi2
        rw [look_cons_same]
        exact ⟨(h.tmps t).1.strip.later later_re, SpareOk.strip⟩
      · rw [look_cons_ne hi2]
        refine ⟨(h.tmps i).1.later later_re, (h.tmps i).2.re (moveSp_other ?_ ?_)⟩
        · intro hh; cases hh; exact hi2 rfl
        · intro hh; cases hh; exact hi rfl

/-- The slot d holds nothing any more. -/
theorem RA.clear {E B σ a w g} (h : RA E B σ a w g) (d : Nat) : ∃ g', RA E B { σ with tmps := (d, .any) :: σ.tmps } a w g' ∧
    Later w g σ.heap.length w g' σ.heap.length ∧ ∀ b off, g'.own b off ≠ .sp (.tmp d) := by
  refine ⟨g.re (fun x => if x = .tmp d then .none else .sp x), ⟨h.nt, fun b off ho => h.gok b off fun hn => ho (re_none hn), h.gl.later (later_re (n := 0)), fun i => ?_, fun id l hl => ?_, h.st.re, h.n0, h.defers⟩, later_re, fun b off ho => ?_⟩
  · by_cases hi : d = i
    · subst hi; rw [look_cons_same]; exact ⟨by simp [Rep], trivial⟩
    · rw [look_cons_ne hi]
      refine ⟨(h.tmps i).1.later later_re, (h.tmps i).2.re ?_⟩
      rw [if_neg]; intro hh; cases hh; exact hi rfl
  · obtain ⟨vs, e, hc⟩ := h.heap id l hl
    exact ⟨vs, e, hc.blk, fun off => re_obj (hc.own off), hc.size, fun j av hj => let ⟨v, h3, h4, h5⟩ := hc.rep j av hj; ⟨v, h3, h4.later later_re, h5.re (by simp)⟩, hc.bp,
      fun j te b hj => let ⟨v, h3, h4, h5⟩ := hc.buf j te b hj; ⟨v, h3, h4, fun k hv off => by rw [re_sp (h5 k hv off)]; simp⟩⟩
  · cases hg : g.own b off with
    | sp s =>
      rw [re_sp hg] at ho
      split at ho
      · cases ho
      · rename_i hne; injection ho with hh; exact hne hh
    | _ => simp [Gh.re, hg] at ho

/-! ### Elements, laid out -/

def flatC (es : List AV) : List AV := es.flatMap AV.cells

def Fit (k : Nat) (es : List AV) : Prop := ∀ e, e ∈ es → e.sure = true ∧ e.cells.length = k

theorem Els.flat {w g n} : ∀ {es : List AV} {b off k : Nat}, Els w g n es b off k → (∀ e ∈ es, e.sure = true) → ∃ vs, vs.length = es.length * k ∧ Holds w g b off vs ∧ Reps w g n (flatC es) vs
  | [], b, off, k, _, _ => ⟨[], by simp, fun j u h => by simp at h, by simp [flatC, Reps]⟩
  | e :: es, b, off, k, h, hs => by
    simp only [Els] at h
    obtain ⟨⟨v, h1, h2, h3⟩, h4⟩ := h
    obtain ⟨vs, h5, h6, h7⟩ := Els.flat h4 (fun x hx => hs x (by simp [hx]))
    refine ⟨v.cells.toList ++ vs, ?_, fun j u hj => ?_, ?_⟩
    · simp [h5, h2, Nat.add_mul, Nat.add_comm]
    · rcases Nat.lt_or_ge j v.cells.toList.length with hlt | hge
      · rw [List.getElem?_append_left hlt] at hj; exact h3 j u hj
      · rw [List.getElem?_append_right hge] at hj
        have := h6 _ u hj
        simp at hge
        rw [show off + k + (j - v.cells.toList.length) = off + j by simp; omega] at this
        exact this
    · simp only [flatC, List.flatMap_cons]
      exact Reps.append (h1.cells (hs e (by simp))) h7

theorem Reps.append_split {w g n} : ∀ {as bs : List AV} {vs : List Value}, Reps w g n (as ++ bs) vs → ∃ us ws, vs = us ++ ws ∧ Reps w g n as us ∧ Reps w g n bs ws
  | [], bs, vs, h => ⟨[], vs, rfl, by simp [Reps], h⟩
  | a :: as, bs, vs, h => by
    obtain ⟨v, rest, rfl, h1, h2⟩ := Reps.cons.1 h
    obtain ⟨us, ws, rfl, h3, h4⟩ := Reps.append_split h2
    exact ⟨v :: us, ws, rfl, Reps.cons'.2 ⟨h1, h3⟩, h4⟩

theorem rep_of_cells {w g n} {e : AV} {vs : List Value} (hs : e.sure = true) (ho : e.cells.all AV.one = true) (h : Reps w g n e.cells vs) :
    ∃ v, Rep w g n e v ∧ v.cells.toList = vs := by
  by_cases hagg : ∃ cs, e = .agg cs
  · obtain ⟨cs, rfl⟩ := hagg
    refine ⟨.agg vs.toArray, ?_, by simp [Value.cells]⟩
    simp only [Rep]
    exact ⟨_, rfl, by simpa [AV.cells] using h⟩
  · have he : e.cells = [e] := by cases e <;> first | rfl | (exact absurd ⟨_, rfl⟩ hagg)
    rw [he] at h ho
    obtain ⟨v, rest, rfl, h1, h2⟩ := Reps.cons.1 h
    simp [Reps] at h2
    subst h2
    refine ⟨v, h1, ?_⟩
    have : v.oneCell' = true := h1.one (by simpa using ho)
    cases v <;> first | rfl | (cases this)

theorem Els.of_flat {w g n k} : ∀ {es : List AV} {b off : Nat} {vs : List Value}, Fit k es → (∀ e ∈ es, e.cells.all AV.one = true) → Holds w g b off vs → Reps w g n (flatC es) vs → Els w g n es b off k
  | [], _, _, _, _, _, _, _ => by simp [Els]
  | e :: es, b, off, vs, hf, ho, hH, hR => by
    simp only [flatC, List.flatMap_cons] at hR
    obtain ⟨us, ws, rfl, h1, h2⟩ := hR.append_split
    obtain ⟨hs, hk⟩ := hf e (by simp)
    obtain ⟨v, h3, h4⟩ := rep_of_cells hs (ho e (by simp)) h1
    have hul : us.length = k := by rw [h1.length, hk]
    simp only [Els]
    refine ⟨⟨v, h3, ?_, ?_⟩, Els.of_flat (vs := ws) (fun x hx => hf x (by simp [hx])) (fun x hx => ho x (by simp [hx])) ?_ h2⟩
    · rw [← Array.length_toList, h4, hul]
    · rw [h4]; intro j u hj; exact hH j u (by rw [List.getElem?_append_left]; exact hj; exact (List.getElem?_eq_some_iff.1 hj).1)
    · intro j u hj
      have := hH (k + j) u (by rw [List.getElem?_append_right (by omega)]; simpa [hul] using hj)
      rwa [← Nat.add_assoc] at this

theorem Els.append {w g n k} : ∀ {es xs : List AV} {b off : Nat}, Els w g n es b off k → Els w g n xs b (off + es.length * k) k → Els w g n (es ++ xs) b off k
  | [], xs, b, off, _, h => by simpa using h
  | e :: es, xs, b, off, h, h' => by
    simp only [Els, List.cons_append] at h ⊢
    refine ⟨h.1, Els.append h.2 ?_⟩
    rw [show off + k + es.length * k = off + (e :: es).length * k by simp [Nat.add_mul]; omega]
    exact h'

theorem growBy_le (N : Nat) : ∀ (r c : Nat), c ≤ 2 * N + 192 → Builtin.growBy N r c ≤ 2 * N + 192
  | 0, c, h => by simpa [Builtin.growBy] using h
  | r + 1, c, h => by
    unfold Builtin.growBy
    split
    · exact h
    · exact growBy_le N r _ (by omega)

theorem nextslicecap_le {need cap : Nat} (h : cap < need) : Builtin.nextslicecap need cap ≤ 2 * need + 192 := by
  unfold Builtin.nextslicecap
  split
  · omega
  · split
    · omega
    · exact growBy_le _ _ _ (by omega)

end Go.Abs

namespace Go.Abs
open Go Go.RowKit

theorem Els.fit {w g n k k'} {es : List AV} {b off : Nat} (h : Els w g n es b off k') (hf : Fit k es) : Els w g n es b off k := by
  cases es with
  | nil => simp [Els]
  | cons e es =>
    have : k' = k := by
      obtain ⟨v, h5, h6, _⟩ := h.get 0 e (by simp)
      obtain ⟨h7, h8⟩ := hf e (by simp)
      have := (h5.cells h7).length
      simp at this; omega
    rwa [this] at h

/-- What is known of a slice that may be appended to. -/
theorem own_open {w g n i c k es v} (hc : c = .own k ∨ (c = .full ∧ Fit k es)) (hr : Rep w g n (.sl c es) v) (hs : SpareOk w g n (.tmp i) (.sl c es) v) :
    ∃ base cap, v = .slice base es.length cap ∧ es.length ≤ cap ∧ (base = none → cap = 0) ∧ ∀ a, base = some a → (0 < cap → a.spot = none) ∧ Els w g n es a.block a.off k ∧
      ∀ q, es.length * k ≤ q → q < cap * k → g.own a.block (a.off + q) = .sp (.tmp i) ∧ (∃ u, w.cell? ⟨a.block, a.off + q, none⟩ = some u) ∧ w.frozen? ⟨a.block, a.off + q, none⟩ = false := by
  simp only [Rep] at hr
  obtain ⟨base, len, cap, rfl, h1, h2, h3, h4, h5⟩ := hr
  subst h1
  refine ⟨base, cap, rfl, h2, h4, fun a ha => ?_⟩
  subst ha
  obtain ⟨h6, k', h7⟩ := h5 a rfl
  refine ⟨h6, ?_⟩
  rcases hc with rfl | ⟨rfl, hf⟩
  · simp only [SpareOk] at hs
    exact ⟨hs.2.1, hs.2.2⟩
  · refine ⟨h7.fit hf, fun q hq1 hq2 => ?_⟩
    rw [h3 rfl] at hq2
    omega

/-- The slot i's slice has room: the new elements are written behind it. -/
theorem RA.appendIn {E B σ a w g} (h : RA E B σ a w g) {i k : Nat} {c : Cap} {es xs : List AV} {b off cap : Nat} {vs : List Value} (hi : i < B.nt) (hk : 0 < k)
    (hlook : look σ.tmps i = .sl c es) (hc : c = .own k ∨ (c = .full ∧ Fit k es)) (hv : a.tmps.getD i undef = .slice (some ⟨b, off, none⟩) es.length cap)
    (hf : Fit k xs) (ho : ∀ e ∈ xs, e.cells.all AV.one = true) (hR : Reps w g σ.heap.length (flatC xs) vs) (hroom : es.length + xs.length ≤ cap) :
    vs.length = xs.length * k ∧ (∀ j, j < vs.length → (∃ u, w.cell? ⟨b, off + es.length * k + j, none⟩ = some u) ∧ w.frozen? ⟨b, off + es.length * k + j, none⟩ = false) ∧
    ∃ g', RA E B { σ with tmps := (i, .sl (.own k) (es ++ xs)) :: σ.tmps } (a.put (some i) (.slice (some ⟨b, off, none⟩) (es.length + xs.length) cap)) (setRow w b (off + es.length * k) vs) g' := by
  have hvl : vs.length = xs.length * k := by
    rw [hR.length]
    clear hR hroom ho
    induction xs with
    | nil => simp [flatC]
    | cons x xs ih =>
      have h1 := hf x (by simp)
      have h2 := ih (fun e he => hf e (by simp [he]))
      simp only [flatC, List.flatMap_cons, List.length_append, List.length_cons, Nat.add_mul, Nat.one_mul] at h2 ⊢
      rw [h2, h1.2]; omega
  obtain ⟨hr0, hs0⟩ := h.tmps i
  rw [hlook, hv] at hr0 hs0
  obtain ⟨base, cap', heq, hle, _, hopen⟩ := own_open hc hr0 hs0
  injection heq with e1 _ e3
  subst e1 e3
  obtain ⟨_, hels, hsp⟩ := hopen _ rfl
  simp only at hels hsp
  have hmul : (es.length + xs.length) * k ≤ cap * k := Nat.mul_le_mul_right k hroom
  have hadd : (es.length + xs.length) * k = es.length * k + xs.length * k := Nat.add_mul _ _ _
  have hin : ∀ j, j < vs.length → g.own b (off + es.length * k + j) = .sp (.tmp i) ∧ (∃ u, w.cell? ⟨b, off + es.length * k + j, none⟩ = some u) ∧ w.frozen? ⟨b, off + es.length * k + j, none⟩ = false := fun j hj => by
    have := hsp (es.length * k + j) (by omega) (by omega)
    rw [← Nat.add_assoc] at this
    exact this
  refine ⟨hvl, fun j hj => (hin j hj).2, ?_⟩
  let g' : Gh := { g with own := fun b' o => if b' = b ∧ off + es.length * k ≤ o ∧ o < off + es.length * k + vs.length then .com else g.own b' o }
  have hg'in : ∀ j, j < vs.length → g'.own b (off + es.length * k + j) = .com := fun j hj => if_pos ⟨rfl, Nat.le_add_right _ _, by omega⟩
  have hg'out : ∀ b' o, ¬ (b' = b ∧ off + es.length * k ≤ o ∧ o < off + es.length * k + vs.length) → g'.own b' o = g.own b' o := fun b' o hh => if_neg hh
  have hnot : ∀ b' o, g.own b' o ≠ .sp (.tmp i) → ¬ (b' = b ∧ off + es.length * k ≤ o ∧ o < off + es.length * k + vs.length) := fun b' o hne ⟨h1, h2, h3⟩ => by
    subst h1
    have := (hin (o - (off + es.length * k)) (by omega)).1
    rw [show off + es.length * k + (o - (off + es.length * k)) = o by omega] at this
    exact hne this
  obtain ⟨m1, m2, m3, m4, m5⟩ := setRow_misc vs w b (off + es.length * k)
  -- the block
  have hblk : vs = [] ∨ ∃ cs e lo hi, w.heap[b]? = some (.cells cs e (lo, hi)) ∧ off + es.length * k + vs.length ≤ cs.size := by
    rcases Nat.eq_zero_or_pos vs.length with h0 | h0
    · exact .inl (List.length_eq_zero_iff.1 h0)
    · right
      obtain ⟨_, ⟨u, hu⟩, _⟩ := hin (vs.length - 1) (by omega)
      unfold World.cell? at hu
      simp only at hu
      split at hu
      · rename_i cs e fr heq
        refine ⟨cs, e, fr.1, fr.2, heq, ?_⟩
        simp at hu
        have := (Array.getElem?_eq_some_iff.1 hu).1
        omega
      · cases hu
  have hcell : ∀ b' o, ¬ (b' = b ∧ off + es.length * k ≤ o ∧ o < off + es.length * k + vs.length) → (setRow w b (off + es.length * k) vs).cell? ⟨b', o, none⟩ = w.cell? ⟨b', o, none⟩ := fun b' o hh => by
    by_cases hb : b' = b
    · subst hb
      rcases hblk with h0 | ⟨cs, e, lo, hi', hbk, hsz⟩
      · subst h0; rfl
      · obtain ⟨c', h6, h7, h8, _⟩ := setRow_block vs w b' (off + es.length * k) cs e (lo, hi') hbk hsz
        rw [cell_of_heap h6, cell_of_heap hbk, h8 o (by omega)]
    · exact World.cell?_of_block (w := w) (m5 b' hb)
  have hfro : ∀ b' o, (setRow w b (off + es.length * k) vs).frozen? ⟨b', o, none⟩ = w.frozen? ⟨b', o, none⟩ := fun b' o => by
    by_cases hb : b' = b
    · subst hb
      rcases hblk with h0 | ⟨cs, e, lo, hi', hbk, hsz⟩
      · subst h0; rfl
      · obtain ⟨c', h6, _⟩ := setRow_block vs w b' (off + es.length * k) cs e (lo, hi') hbk hsz
        rw [frozen_of_block h6, frozen_of_block hbk]
    · exact World.frozen?_of_block (w := w) (m5 b' hb)
  have hlater : Later w g σ.heap.length (setRow w b (off + es.length * k) vs) g' σ.heap.length := by
    refine ⟨Nat.le_refl _, fun _ _ => rfl, fun b' o u hcu hcom => ?_, fun b' o hbo hcom => ⟨?_, fun off' => ?_⟩⟩
    · have hn := hnot b' o (by rw [hcom]; simp)
      exact ⟨by rw [hcell _ _ hn]; exact hcu, by rw [hg'out _ _ hn]; exact hcom⟩
    · by_cases hb : b' = b
      · subst hb
        rcases Nat.eq_zero_or_pos vs.length with h0 | h0
        · have := List.length_eq_zero_iff.1 h0; subst this; exact hbo
        · exfalso
          have h1 := (hin 0 h0).1
          rw [hcom] at h1; cases h1
      · rw [m5 b' hb]; exact hbo
    · rw [hg'out _ _ (hnot b' off' (by rw [hcom]; simp))]; exact hcom off'
  have hks : ∀ s, s ≠ .tmp i → KeepsSp w g (setRow w b (off + es.length * k) vs) g' s := fun s hs b' o u ho' hcu hf' => by
    have hn := hnot b' o (by rw [ho']; simpa using hs)
    exact ⟨by rw [hg'out _ _ hn]; exact ho', ⟨u, by rw [hcell _ _ hn]; exact hcu⟩, by rw [hfro]; exact hf'⟩
  have hkb : ∀ id, KeepsBuf w g (setRow w b (off + es.length * k) vs) g' id := fun id b' j _ hall => by
    refine ⟨?_, fun o => ?_⟩
    · by_cases hb : b' = b
      · subst hb
        rcases Nat.eq_zero_or_pos vs.length with h0 | h0
        · have := List.length_eq_zero_iff.1 h0; subst this; rfl
        · exfalso
          have h1 := (hin 0 h0).1
          rw [hall] at h1; cases h1
      · exact m5 b' hb
    · rw [hg'out _ _ (hnot b' o (by rw [hall o]; simp))]; exact hall o
  have hstable : Stable w g σ.heap.length (setRow w b (off + es.length * k) vs) g' := by
    refine ⟨by rw [m4]; exact Nat.le_refl _, m1, m2, m3, fun b' hb' hall => ?_, fun b' c2 e2 fr2 hcc _ => ?_, fun b' o hb' => ⟨fun hn => ?_, fun hn => ?_⟩, fun _ _ => rfl⟩
    · by_cases hb : b' = b
      · subst hb
        rcases Nat.eq_zero_or_pos vs.length with h0 | h0
        · have := List.length_eq_zero_iff.1 h0; subst this; rfl
        · exfalso
          have := (hin 0 h0).1
          rcases hall (off + es.length * k + 0) with h' | h' <;> rw [this] at h' <;> cases h'
      · exact m5 b' hb
    · by_cases hb : b' = b
      · subst hb
        rcases hblk with h0 | ⟨cs, e, lo, hi', hbk, hsz⟩
        · subst h0; exact ⟨c2, fr2, hcc, rfl, fun _ _ => ⟨rfl, rfl⟩⟩
        · rw [hbk] at hcc
          cases hcc
          obtain ⟨c', h6, h7, h8, _⟩ := setRow_block vs w b' (off + es.length * k) _ _ _ hbk hsz
          refine ⟨c', _, h6, h7, fun o ho' => ⟨rfl, h8 o ?_⟩⟩
          have := hnot b' o (by rcases ho' with ho' | ho' <;> rw [ho'] <;> simp)
          omega
      · exact ⟨c2, fr2, by rw [m5 b' hb]; exact hcc, rfl, fun _ _ => ⟨rfl, rfl⟩⟩
    · rw [hg'out _ _ (hnot b' o (by rw [hn]; simp))]; exact hn
    · rw [hg'out _ _ (hnot b' o (by rw [hn]; simp))]; exact hn
  have hgok : GOk (setRow w b (off + es.length * k) vs) g' := fun b' o hne => by
    rw [m4]
    by_cases hh : b' = b ∧ off + es.length * k ≤ o ∧ o < off + es.length * k + vs.length
    · obtain ⟨rfl, h1, h2⟩ := hh
      obtain ⟨h3, _⟩ := hin (o - (off + es.length * k)) (by omega)
      rw [show off + es.length * k + (o - (off + es.length * k)) = o by omega] at h3
      exact h.gok b' o (by rw [h3]; simp)
    · rw [hg'out _ _ hh] at hne; exact h.gok b' o hne
  have hHolds : Holds (setRow w b (off + es.length * k) vs) g' b (off + es.length * k) vs := fun j u hj => by
    have hjl : j < vs.length := (List.getElem?_eq_some_iff.1 hj).1
    refine ⟨?_, hg'in j hjl⟩
    rcases hblk with h0 | ⟨cs, e, lo, hi', hbk, hsz⟩
    · subst h0; simp at hj
    · obtain ⟨c', h6, _, _, h9⟩ := setRow_block vs w b (off + es.length * k) cs e (lo, hi') hbk hsz
      rw [cell_of_heap h6, h9 j hjl]; exact hj
  have hEls : Els (setRow w b (off + es.length * k) vs) g' σ.heap.length (es ++ xs) b off k :=
    Els.append (Els.later hlater _ _ _ _ hels) (Els.of_flat hf ho hHolds (Reps.later hlater _ _ hR))
  refine ⟨g', by simp [Act.put]; exact h.nt, hgok, h.gl.later hlater.to_zero, fun j => ?_, fun id l hl => ?_, h.st.trans hstable h.n0, h.n0, by simp [Act.put]; exact h.defers⟩
  · rw [getD_put (by rw [h.nt]; exact hi)]
    by_cases hj : i = j
    · subst hj
      rw [look_cons_same, if_pos rfl]
      refine ⟨?_, ?_⟩
      · simp only [Rep]
        exact ⟨_, _, _, rfl, by simp, hroom, (fun hh => by cases hh), (fun hh => by cases hh), fun a' ha' => by cases ha'; exact ⟨fun _ => rfl, k, hEls⟩⟩
      · simp only [SpareOk]
        refine ⟨hk, hEls, fun q hq1 hq2 => ?_⟩
        have hq := hsp q (by omega) hq2
        have hn : ¬ (b = b ∧ off + es.length * k ≤ off + q ∧ off + q < off + es.length * k + vs.length) := by omega
        refine ⟨by rw [hg'out _ _ hn]; exact hq.1, ?_, by rw [hfro]; exact hq.2.2⟩
        obtain ⟨u, hu⟩ := hq.2.1
        exact ⟨u, by rw [hcell _ _ hn]; exact hu⟩
    · rw [look_cons_ne hj, if_neg hj]
      refine ⟨(h.tmps j).1.later hlater, (h.tmps j).2.later hlater (hks _ ?_)⟩
      intro hh; cases hh; exact hj rfl
  · obtain ⟨cs, e, hc'⟩ := h.heap id l hl
    have hid : id < σ.heap.length := by
      rcases Nat.lt_or_ge id σ.heap.length with h' | h'
      · exact h'
      · rw [List.getElem?_eq_none h'] at hl; cases hl
    have hobj : ∀ o, ¬ (g.loc id = b ∧ off + es.length * k ≤ o ∧ o < off + es.length * k + vs.length) := fun o => hnot _ o (by rw [hc'.own]; simp)
    refine ⟨cs, e, hc'.step hid hlater ?_ (fun o => hg'out _ _ (hobj o)) (fun j => hks _ (by simp)) (hkb _)⟩
    by_cases hb : g.loc id = b
    · rcases Nat.eq_zero_or_pos vs.length with h0 | h0
      · have := List.length_eq_zero_iff.1 h0; subst this; rfl
      · exact absurd ⟨hb, Nat.le_refl _, by omega⟩ (hobj (off + es.length * k))
    · exact m5 _ hb

/-- A world with one more block. -/
structure Pushed (w w' : World) (o : Obj) : Prop where
  heap : w'.heap = w.heap.push o
  os : w'.os = w.os
  output : w'.output = w.output
  tape : w'.tape = w.tape

theorem grown_push {w w' g n o} (hp : Pushed w w' o) (hk : GOk w g) (f : Nat → Own) : Grown w g n w' (g.new w.heap.size f) where
  size := by rw [hp.heap]; simp
  os := hp.os
  output := hp.output
  tape := hp.tape
  blk := fun b hb => by rw [hp.heap, Array.getElem?_push, if_neg (by omega)]
  own := fun b off hb => by simp only [Gh.new]; rw [if_neg (by omega)]
  loc := fun _ _ => rfl
  gok := fun b off ho => by
    rw [hp.heap]
    simp only [Gh.new] at ho
    split at ho
    · simp_all
    · have := hk b off ho; simp; omega

/-- There is no room: all goes to a new block. -/
theorem RA.appendNew {E B σ a w g} (h : RA E B σ a w g) {i k cap : Nat} {ys : List AV} {vs : List Value} {e : TypeId} (hi : i < B.nt) (hk : 0 < k)
    (hEl : ∀ w' g' b, Later w g σ.heap.length w' g' σ.heap.length → Holds w' g' b 0 vs → Els w' g' σ.heap.length ys b 0 k)
    (hvl : vs.length = ys.length * k) (hroom : ys.length ≤ cap) (rest : List Value) (hrest : vs.length + rest.length = cap * k) {w' : World} {lo hi' : Nat} (hfr : cap * k ≤ lo ∨ hi' = 0)
    (hp : Pushed w w' (.cells (vs ++ rest).toArray e (lo, hi'))) :
    ∃ g', RA E B { σ with tmps := (i, .sl (.own k) ys) :: σ.tmps } (a.put (some i) (.slice (some ⟨w.heap.size, 0, none⟩) ys.length cap)) w' g' := by
  obtain ⟨g1, h0, hlater0, hcl⟩ := h.clear i
  let f : Nat → Own := fun o => if o < vs.length then .com else if o < cap * k then .sp (.tmp i) else .none
  have hg : Grown w g1 σ.heap.length w' (g1.new w.heap.size f) := grown_push hp h0.gok f
  have h1 := h0.grow' hg
  have hnew : w'.heap[w.heap.size]? = some (.cells (vs ++ rest).toArray e (lo, hi')) := by rw [hp.heap]; simp
  have hH : Holds w' (g1.new w.heap.size f) w.heap.size 0 vs := fun j u hj => by
    have hjl : j < vs.length := (List.getElem?_eq_some_iff.1 hj).1
    refine ⟨?_, by simp [Gh.new, f, hjl]⟩
    rw [cell_of_heap hnew]
    simp [List.getElem?_append_left hjl, hj]
  have hE := hEl _ _ _ (hlater0.trans (hg.later (Nat.le_refl _))) hH
  refine ⟨g1.new w.heap.size f, ?_⟩
  have h2 := RA.put (d := i) (av := .sl (.own k) ys) (v := .slice (some ⟨w.heap.size, 0, none⟩) ys.length cap) h1 hi ?_ ?_
  · refine ⟨h2.nt, h2.gok, h2.gl, fun j => ?_, h2.heap, h2.st, h2.n0, h2.defers⟩
    have := h2.tmps j
    simp only [ASt.put] at this
    by_cases hj : i = j
    · subst hj; simpa [look] using this
    · simpa [look, hj] using this
  · simp only [Rep]
    exact ⟨_, _, _, rfl, rfl, hroom, (fun hh => by cases hh), (fun hh => by cases hh), fun a' ha' => by cases ha'; exact ⟨fun _ => rfl, k, hE⟩⟩
  · simp only [SpareOk]
    refine ⟨hk, hE, fun q hq1 hq2 => ⟨?_, ?_, ?_⟩⟩
    · simp only [Gh.new, if_true, f, Nat.zero_add]
      rw [if_neg (by omega), if_pos hq2]
    · rw [cell_of_heap hnew]
      have hql : q < (vs ++ rest).toArray.size := by simp; omega
      exact ⟨_, Array.getElem?_eq_getElem (by simpa using hql)⟩
    · rw [frozen_of_block hnew]; simp; omega

end Go.Abs

namespace Go.Abs
open Go Go.RowKit

variable {P : Program} {w : World} {g : Gh} {n : Nat}

def argElems : AV → Option (List AV)
  | .sl _ xs => some xs
  | .lit (.string s) => some (s.data.toList.map fun b => .lit (.int .u8 b.toNat))
  | _ => none

theorem flatC_fit {k : Nat} : ∀ {es : List AV}, Fit k es → (flatC es).length = es.length * k
  | [], _ => by simp [flatC]
  | x :: xs, hf => by
    have h1 := hf x (by simp)
    have h2 := flatC_fit (es := xs) (fun e he => hf e (by simp [he]))
    simp only [flatC, List.flatMap_cons, List.length_append, List.length_cons, Nat.add_mul, Nat.one_mul] at h2 ⊢
    rw [h2, h1.2]; omega

theorem flat_lits (l : List Value) (hl : ∀ v ∈ l, v.oneCell' = true) : flatC (l.map AV.lit) = l.map AV.lit := by
  induction l with
  | nil => rfl
  | cons v l ih =>
    simp only [flatC, List.map_cons, List.flatMap_cons] at ih ⊢
    rw [ih (fun v hv => hl v (by simp [hv]))]
    rfl

theorem Reps.lits : ∀ (l : List Value), Reps w g n (l.map AV.lit) l
  | [] => by simp [Reps]
  | v :: l => Reps.cons'.2 ⟨Rep.lit_iff.2 rfl, Reps.lits l⟩

/-- What is appended, as it is read. -/
theorem argElems_run {x : AV} {v : Value} {xs : List AV} {k : Nat} (hx : argElems x = some xs) (hr : Rep w g n x v) (hf : Fit k xs) :
    ∃ vs, (Builtin.lenOf v).run P w = .ok xs.length w ∧ (Builtin.firstCells k xs.length v).run P w = .ok vs.toArray w ∧ Reps w g n (flatC xs) vs ∧ vs.length = xs.length * k := by
  cases x <;> simp [argElems] at hx
  case lit u =>
    cases u <;> simp at hx
    case string s =>
      subst hx
      rw [Rep.lit_iff] at hr
      subst hr
      have hk : s.data.toList = [] ∨ k = 1 := by
        cases hs : s.data.toList with
        | nil => exact .inl rfl
        | cons b l =>
          right
          have := (hf (.lit (.int .u8 b.toNat)) (by simp [hs])).2
          simpa [AV.cells] using this.symm
      refine ⟨s.data.toList.map fun b => .int .u8 b.toNat, ?_, ?_, ?_, ?_⟩
      · simp [Builtin.lenOf]
      · simp only [Builtin.firstCells]
        have : s.extract 0 (List.map (fun b => AV.lit (Value.int IntKind.u8 ↑b.toNat)) s.data.toList).length = s := by
          simp
        rw [this]
        simp only [Sem.run_pure]
        congr 1
        exact Array.ext' (by simp)
      · have e1 : (s.data.toList.map fun b => AV.lit (Value.int .u8 b.toNat)) = (s.data.toList.map fun b => Value.int .u8 b.toNat).map AV.lit := by simp
        rw [e1, flat_lits _ (by simp [Value.oneCell'])]
        exact Reps.lits _
      · rcases hk with h | h
        · simp [h]
        · subst h; simp
  case sl c es =>
    subst hx
    simp only [Rep] at hr
    obtain ⟨base, len, cap, rfl, h1, h2, h3, h4, h5⟩ := hr
    subst h1
    cases base with
    | none =>
      have : es = [] := List.length_eq_zero_iff.1 (by have := h4 rfl; omega)
      subst this
      exact ⟨[], by simp [Builtin.lenOf], by simp [Builtin.firstCells], by simp [flatC, Reps], by simp⟩
    | some a =>
      obtain ⟨h6, k', h7⟩ := h5 a rfl
      obtain ⟨b, off, spot⟩ := a
      simp only at h6 h7
      cases hes : es with
      | nil => exact ⟨[], by simp [Builtin.lenOf], by simp only [Builtin.firstCells, List.length_nil, Nat.zero_mul]; rfl, by simp [flatC, Reps], by simp⟩
      | cons x es' =>
      rw [← hes]
      have h6 := h6 (by have := congrArg List.length hes; simp at this; omega)
      subst h6
      obtain ⟨vs, h8, h9, h10⟩ := (h7.fit hf).flat (fun e he => (hf e he).1)
      refine ⟨vs, by simp [Builtin.lenOf], ?_, h10, h8⟩
      simp only [Builtin.firstCells]
      rw [← h8]
      exact loadCells_holds fun j u hj => (h9 j u hj).1

theorem append_in {t tx e ty : TypeId} {d : TypeDesc} {inf : TypeInfo} {b off sLen cap m : Nat} {v : Value} {vs : List Value} (ht : P.underlying t = some (.slice e)) (htx : P.underlying tx = some d) (hd : ∀ k, d ≠ .int k) (hi : P.info? e = some inf)
    (h1 : (Builtin.lenOf v).run P w = .ok m w) (h2 : (Builtin.firstCells inf.size m v).run P w = .ok vs.toArray w) (hroom : sLen + m ≤ cap)
    (h3 : ∀ v ∈ vs, v.oneCell' = true) (h4 : ∀ j, j < vs.length → (∃ u, w.cell? ⟨b, off + sLen * inf.size + j, none⟩ = some u) ∧ w.frozen? ⟨b, off + sLen * inf.size + j, none⟩ = false) :
    (Builtin.append_ #[t, tx] ty #[.slice (some ⟨b, off, none⟩) sLen cap, v]).run P w = .ok (.slice (some ⟨b, off, none⟩) (sLen + m) cap) (setRow w b (off + sLen * inf.size) vs) := by
  have hz : (d matches .int _) = false := by cases d <;> first | rfl | exact absurd rfl (hd _)
  have hst := run_storeCells (P := P) vs w b (off + sLen * inf.size) 0 h3 (by simpa using h4)
  simp only [Nat.add_zero] at hst
  simp [Builtin.append_, run_und ht, run_und htx, run_siz hi, h1, h2, hroom, addr_add, hst, hz]

theorem append_nil {t tx e ty : TypeId} {d : TypeDesc} {inf : TypeInfo} {v : Value} {vs : List Value} (ht : P.underlying t = some (.slice e)) (htx : P.underlying tx = some d) (hd : ∀ k, d ≠ .int k) (hi : P.info? e = some inf)
    (h1 : (Builtin.lenOf v).run P w = .ok 0 w) (h2 : (Builtin.firstCells inf.size 0 v).run P w = .ok vs.toArray w) :
    (Builtin.append_ #[t, tx] ty #[.slice none 0 0, v]).run P w = .ok (.slice none 0 0) w := by
  have hz : (d matches .int _) = false := by cases d <;> first | rfl | exact absurd rfl (hd _)
  simp [Builtin.append_, run_und ht, run_und htx, run_siz hi, h1, h2, hz]

theorem append_zero {t tx e ty : TypeId} {d : TypeDesc} {inf : TypeInfo} {v : Value} {a : Addr} {cap : Nat} {vs : List Value} (ht : P.underlying t = some (.slice e)) (htx : P.underlying tx = some d) (hd : ∀ k, d ≠ .int k) (hi : P.info? e = some inf)
    (h1 : (Builtin.lenOf v).run P w = .ok 0 w) (h2 : (Builtin.firstCells inf.size 0 v).run P w = .ok vs.toArray w) (hvs : vs = []) :
    (Builtin.append_ #[t, tx] ty #[.slice (some a) 0 cap, v]).run P w = .ok (.slice (some a) 0 cap) w := by
  have hz : (d matches .int _) = false := by cases d <;> first | rfl | exact absurd rfl (hd _)
  subst hvs
  simp [Builtin.append_, run_und ht, run_und htx, run_siz hi, h1, h2, hz, storeCells]

theorem zeroCells_size (z : Array Value) (n : Nat) : (Builtin.zeroCells z n).size = n * z.size := by simp [Builtin.zeroCells]

theorem append_new {t tx e ty : TypeId} {d : TypeDesc} {inf : TypeInfo} {z : Value} {base : Option Addr} {sLen cap m : Nat} {v : Value} {us vs : List Value} (ht : P.underlying t = some (.slice e)) (htx : P.underlying tx = some d) (hd : ∀ k, d ≠ .int k) (hi : P.info? e = some inf) (hzero : inf.zero = some z)
    (h0' : (Builtin.firstCells inf.size sLen (.slice base sLen cap)).run P w.drew = .ok us.toArray w.drew)
    (h1 : (Builtin.lenOf v).run P w = .ok m w) (h2 : (Builtin.firstCells inf.size m v).run P w.drew = .ok vs.toArray w.drew) (hroom : cap < sLen + m)
    (hbound : (2 * (sLen + m) + 192) * inf.bytes ≤ 2 ^ 48) (hint : sLen + m < 2 ^ 62) :
    ∃ newCap, sLen + m ≤ newCap ∧ (Builtin.append_ #[t, tx] ty #[.slice base sLen cap, v]).run P w =
      .ok (.slice (some ⟨w.heap.size, 0, none⟩) (sLen + m) newCap) (w.drew.alloc (.cells (us ++ vs ++ (Builtin.zeroCells z.cells (newCap - (sLen + m))).toList).toArray e)) := by
  have hz : (d matches .int _) = false := by cases d <;> first | rfl | exact absurd rfl (hd _)
  let newCap := (Question.appendCap (sLen + m) cap e).cut (w.tape w.drawn (.appendCap (sLen + m) cap e))
  have hnc : sLen + m ≤ newCap := by simp only [newCap, Question.cut]; omega
  refine ⟨newCap, hnc, ?_⟩
  have hch : (choose (.appendCap (sLen + m) cap e)).run P w = .ok newCap w.drew := by
    rw [run_choose]; rfl
  have hns : ¬ Builtin.nextslicecap (sLen + m) cap * inf.bytes > 2 ^ 48 := by
    have h6 := nextslicecap_le hroom
    have h7 := Nat.mul_le_mul_right inf.bytes h6
    omega
  have hmx : ¬ ((sLen + m : Nat) : Int) > IntKind.i64.max := by simp [IntKind.max, IntKind.signed, IntKind.bits]; omega
  have hle : ¬ sLen + m ≤ cap := by omega
  have hmx' : ¬ (9223372036854775807 : Int) < (sLen : Int) + m := by omega
  have hmx2 : IntKind.i64.max = 9223372036854775807 := rfl
  have hns' : ¬ 281474976710656 < Builtin.nextslicecap (sLen + m) cap * inf.bytes := by simpa using hns
  simp [Builtin.append_, run_und ht, run_und htx, run_siz hi, run_inf hi, h1, h2, h0', hz, hle, hmx', hns', hch, zeroValue, hzero, newRow, hmx2, Question.forced, newCap]
  congr 2
  exact Array.ext' (by simp)

end Go.Abs
