/- Ownership handed on; append. -/
import Derived.Test.YtenhfnadhmjloaaDoorAbsI
set_option linter.all false
namespace Go.Abs
open Go Go.RowKit

def Gh.re (g : Gh) (f : Slot → Own) : Gh := { g with own := fun b off => match g.own b off with | .sp s => f s | o => o }

theorem re_com {g : Gh} {f} {b off} (h : g.own b off = .com) : (g.re f).own b off = .com := by simp [Gh.re, h]
theorem re_none {g : Gh} {f} {b off} (h : g.own b off = .none) : (g.re f).own b off = .none := by simp [Gh.re, h]
theorem re_obj {g : Gh} {f} {b off i} (h : g.own b off = .obj i) : (g.re f).own b off = .obj i := by simp [Gh.re, h]
theorem re_sp {g : Gh} {f} {b off s} (h : g.own b off = .sp s) : (g.re f).own b off = f s := by simp [Gh.re, h]

theorem later_re {w g n f} : Later w g n w (g.re f) n := ⟨Nat.le_refl _, fun _ _ => rfl, fun _ _ _ h h' => ⟨h, re_com h'⟩⟩

theorem SpareOk.re {w g n s s' f av v} (hf : f s = .sp s') (h : SpareOk w g n s av v) : SpareOk w (g.re f) n s' av v := by
  cases av <;> try exact trivial
  rename_i c es
  cases c <;> try exact trivial
  rename_i k
  cases v <;> try exact trivial
  rename_i a len cap
  cases a <;> try exact trivial
  rename_i a
  simp only [SpareOk] at h ⊢
  obtain ⟨h0, h1, h2⟩ := h
  refine ⟨h0, Els.later later_re _ _ _ _ h1, fun q hq1 hq2 => ?_⟩
  obtain ⟨h3, h4, h5⟩ := h2 q hq1 hq2
  exact ⟨by rw [re_sp h3]; exact hf, h4, h5⟩

def moveSp (s s' : Slot) (x : Slot) : Own := if x = s then .sp s' else if x = s' then .none else .sp x

theorem moveSp_same (s s' : Slot) : moveSp s s' s = .sp s' := by simp [moveSp]
theorem moveSp_other {s s' x : Slot} (h : x ≠ s) (h' : x ≠ s') : moveSp s s' x = .sp x := by simp [moveSp, h, h']

theorem GOk.re {w g s s'} (h : GOk w g) : GOk w (g.re (moveSp s s')) := fun b off ho => by
  refine h b off fun hn => ho (re_none hn)

theorem Stable.re {w0 g0 n0 w g f} (h : Stable w0 g0 n0 w g) : Stable w0 g0 n0 w (g.re f) where
  size := h.size
  os := h.os
  output := h.output
  tape := h.tape
  blk := h.blk
  cel := h.cel
  own := fun b off hb => ⟨fun ho => re_none ((h.own b off hb).1 ho), fun ho => re_com ((h.own b off hb).2 ho)⟩
  loc := h.loc

theorem CellsOk.re {w g n id l vs e s s'} (h : CellsOk w g n id l vs e) (h1 : ∀ j, s ≠ .cell id j) (h2 : ∀ j, s' ≠ .cell id j) : CellsOk w (g.re (moveSp s s')) n id l vs e where
  blk := h.blk
  own := fun off => re_obj (h.own off)
  size := h.size
  rep := fun j av hj => let ⟨v, h3, h4, h5⟩ := h.rep j av hj; ⟨v, h3, h4.later later_re, h5.re (moveSp_other (Ne.symm (h1 j)) (Ne.symm (h2 j)))⟩

theorem HeapOk.re {w g h t d} (hh : HeapOk w g h) : HeapOk w (g.re (moveSp (.tmp t) (.tmp d))) h := fun id l hl =>
  let ⟨vs, e, hc⟩ := hh id l hl
  ⟨vs, e, hc.re (fun _ hh => by cases hh) (fun _ hh => by cases hh)⟩

/-- The slot t's value, and its room, goes to slot d. -/
theorem RA.take {E B σ a w g} (h : RA E B σ a w g) {t d : Nat} (hd : d < B.nt) (htd : t ≠ d) :
    RA E B { σ with tmps := (d, look σ.tmps t) :: (t, (look σ.tmps t).strip) :: σ.tmps } (a.put (some d) (a.tmps.getD t undef)) w (g.re (moveSp (.tmp t) (.tmp d))) where
  nt := by simp [Act.put]; exact h.nt
  gok := h.gok.re
  gl := h.gl.later (later_re (n := 0))
  heap := h.heap.re
  st := h.st.re
  n0 := h.n0
  defers := by simp [Act.put]; exact h.defers
  tmps := fun i => by
    rw [getD_put (by rw [h.nt]; exact hd)]
    by_cases hi : d = i
    · subst hi
      rw [look_cons_same, if_pos rfl]
      exact ⟨(h.tmps t).1.later later_re, (h.tmps t).2.re (moveSp_same _ _)⟩
    · rw [look_cons_ne hi, if_neg hi]
      by_cases hi2 : t = i
      · subst hi2
        rw [look_cons_same]
        exact ⟨(h.tmps t).1.strip.later later_re, SpareOk.strip⟩
      · rw [look_cons_ne hi2]
        refine ⟨(h.tmps i).1.later later_re, (h.tmps i).2.re (moveSp_other ?_ ?_)⟩
        · intro hh; cases hh; exact hi2 rfl
        · intro hh; cases hh; exact hi rfl

/-- The slot d holds nothing any more. -/
theorem RA.clear {E B σ a w g} (h : RA E B σ a w g) (d : Nat) : ∃ g', RA E B { σ with tmps := (d, .any) :: σ.tmps } a w g' ∧
    Later w g σ.heap.length w g' σ.heap.length ∧ ∀ b off, g'.own b off ≠ .sp (.tmp d) := by
  refine ⟨g.re (fun x => if x = .tmp d then .none else .sp x), ⟨h.nt, fun b off ho => h.gok b off fun hn => ho (re_none hn), h.gl.later (later_re (n := 0)), fun i => ?_, fun id l hl => ?_, h.st.re, h.n0, h.defers⟩, later_re, fun b off ho => ?_⟩
  · by_cases hi : d = i
    · subst hi; rw [look_cons_same]; exact ⟨by simp [Rep], trivial⟩
    · rw [look_cons_ne hi]
      refine ⟨(h.tmps i).1.later later_re, (h.tmps i).2.re ?_⟩
      rw [if_neg]; intro hh; cases hh; exact hi rfl
  · obtain ⟨vs, e, hc⟩ := h.heap id l hl
    exact ⟨vs, e, hc.blk, fun off => re_obj (hc.own off), hc.size, fun j av hj => let ⟨v, h3, h4, h5⟩ := hc.rep j av hj; ⟨v, h3, h4.later later_re, h5.re (by simp)⟩⟩
  · cases hg : g.own b off with
    | sp s =>
      rw [re_sp hg] at ho
      split at ho
      · cases ho
      · rename_i hne; injection ho with hh; exact hne hh
    | _ => simp [Gh.re, hg] at ho

/-! ### Elements, laid out -/

def flatC (es : List AV) : List AV := es.flatMap AV.cells

def Fit (k : Nat) (es : List AV) : Prop := ∀ e, e ∈ es → e.sure = true ∧ e.cells.length = k

theorem Els.flat {w g n} : ∀ {es : List AV} {b off k : Nat}, Els w g n es b off k → (∀ e ∈ es, e.sure = true) → ∃ vs, vs.length = es.length * k ∧ Holds w g b off vs ∧ Reps w g n (flatC es) vs
  | [], b, off, k, _, _ => ⟨[], by simp, fun j u h => by simp at h, by simp [flatC, Reps]⟩
  | e :: es, b, off, k, h, hs => by
    simp only [Els] at h
    obtain ⟨⟨v, h1, h2, h3⟩, h4⟩ := h
    obtain ⟨vs, h5, h6, h7⟩ := Els.flat h4 (fun x hx => hs x (by simp [hx]))
    refine ⟨v.cells.toList ++ vs, ?_, fun j u hj => ?_, ?_⟩
    · simp [h5, h2, Nat.add_mul, Nat.add_comm]
    · rcases Nat.lt_or_ge j v.cells.toList.length with hlt | hge
      · rw [List.getElem?_append_left hlt] at hj; exact h3 j u hj
      · rw [List.getElem?_append_right hge] at hj
        have := h6 _ u hj
        simp at hge
        rw [show off + k + (j - v.cells.toList.length) = off + j by simp; omega] at this
        exact this
    · simp only [flatC, List.flatMap_cons]
      exact Reps.append (h1.cells (hs e (by simp))) h7

theorem Reps.append_split {w g n} : ∀ {as bs : List AV} {vs : List Value}, Reps w g n (as ++ bs) vs → ∃ us ws, vs = us ++ ws ∧ Reps w g n as us ∧ Reps w g n bs ws
  | [], bs, vs, h => ⟨[], vs, rfl, by simp [Reps], h⟩
  | a :: as, bs, vs, h => by
    obtain ⟨v, rest, rfl, h1, h2⟩ := Reps.cons.1 h
    obtain ⟨us, ws, rfl, h3, h4⟩ := Reps.append_split h2
    exact ⟨v :: us, ws, rfl, Reps.cons'.2 ⟨h1, h3⟩, h4⟩

theorem rep_of_cells {w g n} {e : AV} {vs : List Value} (hs : e.sure = true) (ho : e.cells.all AV.one = true) (h : Reps w g n e.cells vs) :
    ∃ v, Rep w g n e v ∧ v.cells.toList = vs := by
  by_cases hagg : ∃ cs, e = .agg cs
  · obtain ⟨cs, rfl⟩ := hagg
    refine ⟨.agg vs.toArray, ?_, by simp [Value.cells]⟩
    simp only [Rep]
    exact ⟨_, rfl, by simpa [AV.cells] using h⟩
  · have he : e.cells = [e] := by cases e <;> first | rfl | (exact absurd ⟨_, rfl⟩ hagg)
    rw [he] at h ho
    obtain ⟨v, rest, rfl, h1, h2⟩ := Reps.cons.1 h
    simp [Reps] at h2
    subst h2
    refine ⟨v, h1, ?_⟩
    have : v.oneCell' = true := h1.one (by simpa using ho)
    cases v <;> first | rfl | (cases this)

theorem Els.of_flat {w g n k} : ∀ {es : List AV} {b off : Nat} {vs : List Value}, Fit k es → (∀ e ∈ es, e.cells.all AV.one = true) → Holds w g b off vs → Reps w g n (flatC es) vs → Els w g n es b off k
  | [], _, _, _, _, _, _, _ => by simp [Els]
  | e :: es, b, off, vs, hf, ho, hH, hR => by
    simp only [flatC, List.flatMap_cons] at hR
    obtain ⟨us, ws, rfl, h1, h2⟩ := hR.append_split
    obtain ⟨hs, hk⟩ := hf e (by simp)
    obtain ⟨v, h3, h4⟩ := rep_of_cells hs (ho e (by simp)) h1
    have hul : us.length = k := by rw [h1.length, hk]
    simp only [Els]
    refine ⟨⟨v, h3, ?_, ?_⟩, Els.of_flat (vs := ws) (fun x hx => hf x (by simp [hx])) (fun x hx => ho x (by simp [hx])) ?_ h2⟩
    · rw [← Array.length_toList, h4, hul]
    · rw [h4]; intro j u hj; exact hH j u (by rw [List.getElem?_append_left]; exact hj; exact (List.getElem?_eq_some_iff.1 hj).1)
    · intro j u hj
      have := hH (k + j) u (by rw [List.getElem?_append_right (by omega)]; simpa [hul] using hj)
      rwa [← Nat.add_assoc] at this

theorem Els.append {w g n k} : ∀ {es xs : List AV} {b off : Nat}, Els w g n es b off k → Els w g n xs b (off + es.length * k) k → Els w g n (es ++ xs) b off k
  | [], xs, b, off, _, h => by simpa using h
  | e :: es, xs, b, off, h, h' => by
    simp only [Els, List.cons_append] at h ⊢
    refine ⟨h.1, Els.append h.2 ?_⟩
    rw [show off + k + es.length * k = off + (e :: es).length * k by simp [Nat.add_mul]; omega]
    exact h'

theorem growBy_le (N : Nat) : ∀ (r c : Nat), c ≤ 2 * N + 192 → Builtin.growBy N r c ≤ 2 * N + 192
  | 0, c, h => by simpa [Builtin.growBy] using h
  | r + 1, c, h => by
    unfold Builtin.growBy
    split
    · exact h
    · exact growBy_le N r _ (by omega)

theorem nextslicecap_le {need cap : Nat} (h : cap < need) : Builtin.nextslicecap need cap ≤ 2 * need + 192 := by
  unfold Builtin.nextslicecap
  split
  · omega
  · split
    · omega
    · exact growBy_le _ _ _ (by omega)

end Go.Abs
