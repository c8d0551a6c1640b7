/- Rows of cells that are written. -/
import Derived.Test.YtenhfnadhmjloaaDoorAbsH
set_option linter.all false
namespace Go.Abs
open Go Go.RowKit

def setRow : World → Nat → Nat → List Value → World
  | w, _, _, [] => w
  | w, b, off, v :: vs => setRow (w.setCell ⟨b, off, none⟩ v) b (off + 1) vs

theorem setCell_block (w : World) (b off : Nat) (v : Value) {c : Array Value} {e : TypeId} {fr : Nat × Nat} (h : w.heap[b]? = some (.cells c e fr)) :
    (w.setCell ⟨b, off, none⟩ v).heap[b]? = some (.cells (c.setIfInBounds off v) e fr) := by
  simp [World.setCell, Array.getElem?_modify, h]

theorem setCell_other (w : World) (b off : Nat) (v : Value) (b' : Nat) (h : b' ≠ b) : (w.setCell ⟨b, off, none⟩ v).heap[b']? = w.heap[b']? := by
  simp only [World.setCell, Array.getElem?_modify]
  rw [if_neg (by omega)]

theorem setRow_misc : ∀ (vs : List Value) (w : World) (b off : Nat), (setRow w b off vs).os = w.os ∧ (setRow w b off vs).output = w.output ∧ (setRow w b off vs).tape = w.tape ∧
    (setRow w b off vs).heap.size = w.heap.size ∧ ∀ b', b' ≠ b → (setRow w b off vs).heap[b']? = w.heap[b']?
  | [], w, b, off => ⟨rfl, rfl, rfl, rfl, fun _ _ => rfl⟩
  | v :: vs, w, b, off => by
    obtain ⟨h1, h2, h3, h4, h5⟩ := setRow_misc vs (w.setCell ⟨b, off, none⟩ v) b (off + 1)
    exact ⟨h1, h2, h3, by rw [setRow, h4]; simp, fun b' hb' => by rw [setRow, h5 b' hb']; exact setCell_other w b off v b' hb'⟩

theorem setRow_block : ∀ (vs : List Value) (w : World) (b off : Nat) (c : Array Value) (e : TypeId) (fr : Nat × Nat), w.heap[b]? = some (.cells c e fr) → off + vs.length ≤ c.size →
    ∃ c', (setRow w b off vs).heap[b]? = some (.cells c' e fr) ∧ c'.size = c.size ∧ (∀ j, j < off ∨ off + vs.length ≤ j → c'[j]? = c[j]?) ∧ (∀ j, j < vs.length → c'[off + j]? = vs[j]?)
  | [], w, b, off, c, e, fr, h, _ => ⟨c, h, rfl, fun _ _ => rfl, fun j hj => by simp at hj⟩
  | v :: vs, w, b, off, c, e, fr, h, hle => by
    simp only [List.length_cons] at hle
    obtain ⟨c', h1, h2, h3, h4⟩ := setRow_block vs _ b (off + 1) _ e fr (setCell_block w b off v h) (by simp; omega)
    refine ⟨c', h1, by simpa using h2, fun j hj => ?_, fun j hj => ?_⟩
    · rw [h3 j (by simp only [List.length_cons] at hj; omega), Array.getElem?_setIfInBounds]
      simp only [List.length_cons] at hj
      rw [if_neg (by omega)]
    · cases j with
      | zero =>
        rw [h3 _ (by omega), Array.getElem?_setIfInBounds]
        simp; omega
      | succ j =>
        have := h4 j (by simp only [List.length_cons] at hj; omega)
        rw [show off + (j + 1) = off + 1 + j by omega, this]
        simp

theorem frozen_of_block {w : World} {b off : Nat} {c e} {lo hi : Nat} (h : w.heap[b]? = some (.cells c e (lo, hi))) : w.frozen? ⟨b, off, none⟩ = (decide (lo ≤ off) && decide (off < hi)) := by
  simp [World.frozen?, h]

theorem run_storeCells {P : Program} : ∀ (vs : List Value) (w : World) (b off i : Nat), (∀ v ∈ vs, v.oneCell' = true) →
    (∀ j, j < vs.length → (∃ u, w.cell? ⟨b, off + i + j, none⟩ = some u) ∧ w.frozen? ⟨b, off + i + j, none⟩ = false) →
    (storeCells ⟨b, off, none⟩ vs i).run P w = .ok () (setRow w b (off + i) vs)
  | [], w, b, off, i, _, _ => rfl
  | v :: vs, w, b, off, i, h1, h2 => by
    obtain ⟨⟨u, hu⟩, hf⟩ := h2 0 (by simp)
    simp only [Nat.add_zero] at hu hf
    simp only [storeCells, Sem.run_bind, addr_add]
    rw [run_store P w _ v _ (h1 v (by simp)), hu]
    simp only [hf, Bool.false_eq_true, if_false, Result.andThen_ok]
    rw [run_storeCells vs _ b off (i + 1) (fun x hx => h1 x (by simp [hx]))]
    · simp [setRow, Nat.add_assoc]
    · intro j hj
      obtain ⟨⟨u', hu'⟩, hf'⟩ := h2 (j + 1) (by simp; omega)
      rw [show off + (i + 1) + j = off + i + (j + 1) by omega]
      refine ⟨⟨u', ?_⟩, ?_⟩
      · rw [World.cell?_setCell_other]
        · exact hu'
        · intro hh; injection hh with _ hh; omega
      · rw [World.frozen?_setCell]; exact hf'

/-- Values of one cell each. -/
def AV.one : AV → Bool
  | .any => false
  | .agg _ => false
  | .tup _ => false
  | .lit v => v.oneCell'
  | _ => true

theorem Rep.one {w g n} : ∀ {av : AV} {v : Value}, av.one = true → Rep w g n av v → v.oneCell' = true := by
  intro av v h hr
  cases av <;> simp [AV.one] at h <;> simp only [Rep] at hr
  · subst hr; exact h
  · obtain ⟨_, _, _, rfl, _⟩ := hr; rfl
  · obtain ⟨_, _, _, rfl, _⟩ := hr; rfl
  · obtain ⟨rfl, _⟩ := hr; rfl
  · obtain ⟨rfl, _⟩ := hr; rfl
  · obtain ⟨_, _, rfl, _⟩ := hr; rfl
  · obtain ⟨_, rfl, _⟩ := hr; rfl

theorem Reps.ones {w g n} : ∀ {as : List AV} {vs : List Value}, as.all AV.one = true → Reps w g n as vs → ∀ v ∈ vs, v.oneCell' = true
  | [], vs, _, h, v, hv => by simp [Reps] at h; subst h; cases hv
  | a :: as, vs, ho, h, v, hv => by
    obtain ⟨u, rest, rfl, h1, h2⟩ := Reps.cons.1 h
    simp at ho
    rcases List.mem_cons.1 hv with rfl | hv
    · exact h1.one ho.1
    · exact Reps.ones (by simpa using ho.2) h2 v hv

/-- A write to an object's cells. -/
theorem RA.write {E B σ a w g} (h : RA E B σ a w g) {id off : Nat} {l avs : List AV} {vs : List Value} (hl : σ.heap[id]? = some (.cells l)) (hr : Reps w g σ.heap.length avs vs)
    (hno : ∀ av ∈ avs, NoOwn av) (hle : off + avs.length ≤ l.length) :
    RA E B { σ with heap := σ.heap.set id (.cells (setMany l off avs)) } a (setRow w (g.loc id) off vs) g := by
  obtain ⟨cs, e, hc⟩ := h.heap id l hl
  have hid : id < σ.heap.length := by
    rcases Nat.lt_or_ge id σ.heap.length with h' | h'
    · exact h'
    · rw [List.getElem?_eq_none h'] at hl; cases hl
  have hlen : vs.length = avs.length := hr.length
  obtain ⟨h1, h2, h3, h4, h5⟩ := setRow_misc vs w (g.loc id) off
  obtain ⟨c', h6, h7, h8, h9⟩ := setRow_block vs w (g.loc id) off cs e (0, 0) hc.blk (by rw [hlen, hc.size]; exact hle)
  have hb : ∀ b off', g.own b off' ≠ .obj id → b ≠ g.loc id := fun b off' ho hbb => ho (by rw [hbb]; exact hc.own off')
  have hlater : Later w g σ.heap.length (setRow w (g.loc id) off vs) g (σ.heap.set id (.cells (setMany l off avs))).length := by
    refine ⟨by simp, fun _ _ => rfl, fun b off' u hcu ho => ⟨?_, ho⟩⟩
    rw [World.cell?_of_block (w := w) (h5 b (hb b off' (by rw [ho]; simp)))]
    exact hcu
  have hks : ∀ s, KeepsSp w g (setRow w (g.loc id) off vs) g s := fun s b off' u ho hcu hf => by
    have hbb := h5 b (hb b off' (by rw [ho]; simp))
    exact ⟨ho, ⟨u, by rw [World.cell?_of_block (w := w) hbb]; exact hcu⟩, by rw [World.frozen?_of_block (w := w) hbb]; exact hf⟩
  refine ⟨h.nt, fun b off' ho => by rw [h4]; exact h.gok b off' ho, h.gl.later hlater.to_zero, h.tmps.step hlater (fun i => hks _), ?_, ?_, by simpa using h.n0, h.defers⟩
  · intro id' l' hl'
    by_cases hii : id = id'
    · subst hii
      simp only [List.getElem?_set_self hid] at hl'
      cases hl'
      refine ⟨c', e, h6, hc.own, by rw [h7, hc.size, setMany_length], ?_⟩
      have hset : ∀ (avs l : List AV) (off j : Nat), (setMany l off avs)[j]? = if off ≤ j ∧ j < off + avs.length ∧ j < l.length then avs[j - off]? else l[j]? := by
        intro avs
        induction avs with
        | nil => intro l off j; simp [setMany]; omega
        | cons x avs ih =>
          intro l off j
          simp only [setMany, ih, List.length_set, List.length_cons]
          by_cases hj : j = off
          · subst hj
            rw [if_neg (by omega)]
            by_cases hjl : j < l.length
            · rw [if_pos (by omega)]; simp [hjl]
            · rw [if_neg (by omega), List.getElem?_eq_none (by simpa using hjl), List.getElem?_eq_none (by simpa using hjl)]
          · by_cases hc2 : off + 1 ≤ j ∧ j < off + 1 + avs.length ∧ j < l.length
            · rw [if_pos hc2, if_pos (by omega), show j - off = (j - (off + 1)) + 1 by omega]; simp
            · rw [if_neg hc2, if_neg (by omega), List.getElem?_set_ne (by omega)]
      intro j av hj
      rw [hset] at hj
      split at hj
      · rename_i hjj
        obtain ⟨v, hv1, hv2⟩ := hr.get _ _ hj
        refine ⟨v, ?_, hv2.later hlater, (hno av (List.mem_of_getElem? hj)).spare⟩
        have := h9 (j - off) (by omega)
        rw [show off + (j - off) = j by omega] at this
        rw [this]; exact hv1
      · rename_i hjj
        obtain ⟨v, hv1, hv2, hv3⟩ := hc.rep j av hj
        have hjl : j < l.length := by
          rcases Nat.lt_or_ge j l.length with h' | h'
          · exact h'
          · rw [List.getElem?_eq_none h'] at hj; cases hj
        refine ⟨v, by rw [h8 j (by omega)]; exact hv1, hv2.later hlater, hv3.later hlater (hks _)⟩
    · rw [List.getElem?_set_ne hii] at hl'
      obtain ⟨vs', e', hc'⟩ := h.heap id' l' hl'
      have hid' : id' < σ.heap.length := by
        rcases Nat.lt_or_ge id' σ.heap.length with h' | h'
        · exact h'
        · rw [List.getElem?_eq_none h'] at hl'; cases hl'
      refine ⟨vs', e', hc'.step hid' hlater (h5 _ (hb _ 0 ?_)) (fun _ => rfl) (fun j => hks _)⟩
      rw [hc'.own 0]; intro hh; cases hh; exact hii rfl
  · refine h.st.trans (n := σ.heap.length) ⟨by rw [h4]; exact Nat.le_refl _, h1, h2, h3, fun b hbl ho => h5 b ?_, fun b c2 e2 fr2 hcc => ?_, fun _ _ _ => ⟨id_of, id_of⟩, fun _ _ => rfl⟩ h.n0
    · refine hb b 0 ?_
      rcases ho 0 with ho | ho <;> rw [ho] <;> simp
    · by_cases hbb : b = g.loc id
      · subst hbb
        rw [hc.blk] at hcc
        cases hcc
        refine ⟨c', _, h6, h7, fun off' ho => ?_⟩
        rcases ho with ho | ho <;> rw [hc.own] at ho <;> cases ho
      · exact ⟨c2, fr2, by rw [h5 b hbb]; exact hcc, rfl, fun _ _ => ⟨rfl, rfl⟩⟩
  where
  id_of {p : Prop} (h : p) : p := h

end Go.Abs
