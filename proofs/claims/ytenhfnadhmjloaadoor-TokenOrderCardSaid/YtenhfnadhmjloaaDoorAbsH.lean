/- Steps of the world. -/
import Derived.Test.YtenhfnadhmjloaaDoorAbsG
set_option linter.all false
namespace Go.Abs
open Go Go.RowKit

theorem Stable.trans {w0 g0 n0 w g n w' g'} (h : Stable w0 g0 n0 w g) (h' : Stable w g n w' g') (hn : n0 ≤ n) : Stable w0 g0 n0 w' g' where
  size := Nat.le_trans h.size h'.size
  os := h'.os.trans h.os
  output := h'.output.trans h.output
  tape := h'.tape.trans h.tape
  blk := fun b hb ho => by
    rw [h'.blk b (Nat.lt_of_lt_of_le hb h.size) (fun off => (ho off).imp (h.own b off hb).1 (h.own b off hb).2)]
    exact h.blk b hb ho
  cel := fun b c e fr hc => by
    have hb : b < w0.heap.size := by
      rcases Nat.lt_or_ge b w0.heap.size with h | h
      · exact h
      · simp [Array.getElem?_eq_none h] at hc
    obtain ⟨c1, fr1, h1, h2, h3⟩ := h.cel b c e fr hc
    obtain ⟨c2, fr2, h4, h5, h6⟩ := h'.cel b c1 e fr1 h1
    exact ⟨c2, fr2, h4, h5.trans h2, fun off ho => ⟨(h6 off (ho.imp (h.own b off hb).1 (h.own b off hb).2)).1.trans (h3 off ho).1, (h6 off (ho.imp (h.own b off hb).1 (h.own b off hb).2)).2.trans (h3 off ho).2⟩⟩
  own := fun b off hb => ⟨fun ho => (h'.own b off (Nat.lt_of_lt_of_le hb h.size)).1 ((h.own b off hb).1 ho), fun ho => (h'.own b off (Nat.lt_of_lt_of_le hb h.size)).2 ((h.own b off hb).2 ho)⟩
  loc := fun id hi => (h'.loc id (Nat.lt_of_lt_of_le hi hn)).trans (h.loc id hi)

def KeepsSp (w : World) (g : Gh) (w' : World) (g' : Gh) (s : Slot) : Prop :=
  ∀ b off u, g.own b off = .sp s → w.cell? ⟨b, off, none⟩ = some u → w.frozen? ⟨b, off, none⟩ = false →
    g'.own b off = .sp s ∧ (∃ u', w'.cell? ⟨b, off, none⟩ = some u') ∧ w'.frozen? ⟨b, off, none⟩ = false

theorem TmpsOk.step {w g n tmps ts w' g' n'} (h : TmpsOk w g n tmps ts) (hl : Later w g n w' g' n') (hs : ∀ i, KeepsSp w g w' g' (.tmp i)) : TmpsOk w' g' n' tmps ts :=
  fun i => ⟨(h i).1.later hl, (h i).2.later hl (hs i)⟩

theorem CellsOk.step {w g n id l vs e w' g' n'} (h : CellsOk w g n id l vs e) (hid : id < n) (hl : Later w g n w' g' n') (hb : w'.heap[g.loc id]? = w.heap[g.loc id]?)
    (ho : ∀ off, g'.own (g.loc id) off = g.own (g.loc id) off) (hs : ∀ j, KeepsSp w g w' g' (.cell id j)) : CellsOk w' g' n' id l vs e where
  blk := by rw [hl.loc id hid, hb]; exact h.blk
  own := fun off => by rw [hl.loc id hid, ho]; exact h.own off
  size := h.size
  rep := fun j av hj => let ⟨v, h1, h2, h3⟩ := h.rep j av hj; ⟨v, h1, h2.later hl, h3.later hl (hs j)⟩

theorem GlOk.later {E w g w' g'} (h : GlOk E w g) (hl : Later w g 0 w' g' 0) : GlOk E w' g' :=
  fun i cs hi => let ⟨vs, h1, h2⟩ := h i cs hi; ⟨vs, h1.later hl, Reps.later hl _ _ h2⟩

theorem Later.to_zero {w g n w' g' n'} (h : Later w g n w' g' n') : Later w g 0 w' g' 0 := ⟨Nat.le_refl _, (fun _ hi => absurd hi (Nat.not_lt_zero _)), h.com⟩

/-- The world has grown: what was there is as it was. -/
structure Grown (w : World) (g : Gh) (n : Nat) (w' : World) (g' : Gh) : Prop where
  size : w.heap.size ≤ w'.heap.size
  os : w'.os = w.os
  output : w'.output = w.output
  tape : w'.tape = w.tape
  blk : ∀ b, b < w.heap.size → w'.heap[b]? = w.heap[b]?
  own : ∀ b off, b < w.heap.size → g'.own b off = g.own b off
  loc : ∀ id, id < n → g'.loc id = g.loc id
  gok : GOk w' g'

theorem Grown.refl {w g n} (h : GOk w g) : Grown w g n w g := ⟨Nat.le_refl _, rfl, rfl, rfl, fun _ _ => rfl, fun _ _ _ => rfl, fun _ _ => rfl, h⟩

theorem Grown.cell {w g n w' g'} (h : Grown w g n w' g') {b off u} (hc : w.cell? ⟨b, off, none⟩ = some u) : w'.cell? ⟨b, off, none⟩ = some u := by
  have hb := World.block_lt_of_cell? w _ hc
  rw [World.cell?_of_block (w := w) (h.blk b hb)]
  exact hc

theorem Grown.later {w g n w' g' n'} (h : Grown w g n w' g') (hn : n ≤ n') : Later w g n w' g' n' where
  le := hn
  loc := h.loc
  com := fun b off u hc ho => ⟨h.cell hc, by rw [h.own b off (World.block_lt_of_cell? w _ hc)]; exact ho⟩

theorem Grown.keepsSp {w g n w' g'} (h : Grown w g n w' g') (s : Slot) : KeepsSp w g w' g' s := fun b off u ho hc hf => by
  have hb := World.block_lt_of_cell? w _ hc
  exact ⟨by rw [h.own b off hb]; exact ho, ⟨u, h.cell hc⟩, by rw [World.frozen?_of_block (w := w) (h.blk b hb)]; exact hf⟩

theorem Grown.stable {w g n w' g'} (h : Grown w g n w' g') : Stable w g n w' g' where
  size := h.size
  os := h.os
  output := h.output
  tape := h.tape
  blk := fun b hb _ => h.blk b hb
  cel := fun b c e fr hc => by
    have hb : b < w.heap.size := by
      rcases Nat.lt_or_ge b w.heap.size with h | h
      · exact h
      · simp [Array.getElem?_eq_none h] at hc
    exact ⟨c, fr, by rw [h.blk b hb]; exact hc, rfl, fun _ _ => ⟨rfl, rfl⟩⟩
  own := fun b off hb => ⟨fun ho => by rw [h.own b off hb]; exact ho, fun ho => by rw [h.own b off hb]; exact ho⟩
  loc := h.loc

theorem lt_of_heap {w : World} {b : Nat} {o : Obj} (h : w.heap[b]? = some o) : b < w.heap.size := by
  rcases Nat.lt_or_ge b w.heap.size with h' | h'
  · exact h'
  · simp [Array.getElem?_eq_none h'] at h

theorem Grown.cells {w g n w' g' n' id l vs e} (h : Grown w g n w' g') (hn : n ≤ n') (hc : CellsOk w g n id l vs e) (hid : id < n) : CellsOk w' g' n' id l vs e :=
  have hb := lt_of_heap hc.blk
  hc.step hid (h.later hn) (h.blk _ hb) (fun off => h.own _ off hb) (fun j => h.keepsSp _)

theorem Grown.heapOk {w g w' g' h h'} (hg : Grown w g h.length w' g') (hh : HeapOk w g h) (hpre : h <+: h')
    (hnew : ∀ id l, h.length ≤ id → h'[id]? = some (.cells l) → ∃ vs e, CellsOk w' g' h'.length id l vs e) : HeapOk w' g' h' := by
  intro id l hl
  rcases Nat.lt_or_ge id h.length with hlt | hge
  · have : h[id]? = some (.cells l) := by
      obtain ⟨t, rfl⟩ := hpre
      rw [List.getElem?_append_left hlt] at hl
      exact hl
    obtain ⟨vs, e, hc⟩ := hh id l this
    exact ⟨vs, e, hg.cells hpre.length_le hc hlt⟩
  · exact hnew id l hge hl

/-- An activation in a world that has grown, with more objects. -/
theorem RA.grow {E B σ a w g w' g' h'} (h : RA E B σ a w g) (hg : Grown w g σ.heap.length w' g') (hpre : σ.heap <+: h')
    (hnew : ∀ id l, σ.heap.length ≤ id → h'[id]? = some (.cells l) → ∃ vs e, CellsOk w' g' h'.length id l vs e) : RA E B { σ with heap := h' } a w' g' where
  nt := h.nt
  gok := hg.gok
  gl := h.gl.later (hg.later hpre.length_le).to_zero
  tmps := h.tmps.step (hg.later hpre.length_le) (fun i => hg.keepsSp _)
  heap := hg.heapOk h.heap hpre hnew
  st := h.st.trans hg.stable h.n0
  n0 := Nat.le_trans h.n0 hpre.length_le
  defers := h.defers

theorem RA.grow' {E B σ a w g w' g'} (h : RA E B σ a w g) (hg : Grown w g σ.heap.length w' g') : RA E B σ a w' g' :=
  h.grow hg (List.prefix_refl _) (fun id l hid hl => by rw [List.getElem?_eq_none hid] at hl; cases hl)

/-- The ghost of one new block. -/
def Gh.new (g : Gh) (b : Nat) (o : Nat → Own) : Gh := { g with own := fun b' off => if b' = b then o off else g.own b' off }
def Gh.newObj (g : Gh) (b id : Nat) : Gh := { own := fun b' off => if b' = b then .obj id else g.own b' off, loc := fun i => if i = id then b else g.loc i }

theorem grown_alloc {w g n} (hk : GOk w g) (o : Obj) (f : Nat → Own) : Grown w g n (w.alloc o) (g.new w.heap.size f) where
  size := by simp
  os := rfl
  output := rfl
  tape := rfl
  blk := fun b hb => by show (w.heap.push o)[b]? = _; rw [Array.getElem?_push, if_neg (by omega)]
  own := fun b off hb => by simp only [Gh.new]; rw [if_neg (by omega)]
  loc := fun _ _ => rfl
  gok := fun b off ho => by
    simp only [Gh.new] at ho
    split at ho
    · simp_all
    · have := hk b off ho; simp; omega

theorem grown_allocObj {w g n} (hk : GOk w g) (o : Obj) : Grown w g n (w.alloc o) (g.newObj w.heap.size n) where
  size := by simp
  os := rfl
  output := rfl
  tape := rfl
  blk := fun b hb => by show (w.heap.push o)[b]? = _; rw [Array.getElem?_push, if_neg (by omega)]
  own := fun b off hb => by simp only [Gh.newObj]; rw [if_neg (by omega)]
  loc := fun id hi => by simp only [Gh.newObj]; rw [if_neg (by omega)]
  gok := fun b off ho => by
    simp only [Gh.newObj] at ho
    split at ho
    · simp_all
    · have := hk b off ho; simp; omega

theorem heap_alloc_new (w : World) (o : Obj) : (w.alloc o).heap[w.heap.size]? = some o := by show (w.heap.push o)[w.heap.size]? = _; simp

/-- A new object: what its cells stand for. -/
theorem RA.newObj {E B σ a w g} (h : RA E B σ a w g) {l : List AV} {vs : Array Value} {e : TypeId} (hr : Reps w g σ.heap.length l vs.toList) (hno : ∀ av ∈ l, NoOwn av) :
    RA E B { σ with heap := σ.heap ++ [.cells l] } a (w.alloc (.cells vs e)) (g.newObj w.heap.size σ.heap.length) ∧
      (g.newObj w.heap.size σ.heap.length).loc σ.heap.length = w.heap.size := by
  have hg := grown_allocObj (n := σ.heap.length) h.gok (.cells vs e)
  refine ⟨h.grow hg (List.prefix_append _ _) fun id l' hid hl => ?_, by simp [Gh.newObj]⟩
  have hid' : id = σ.heap.length := by
    rcases Nat.lt_or_ge σ.heap.length id with h' | h'
    · rw [List.getElem?_eq_none (by simp; omega)] at hl; cases hl
    · omega
  subst hid'
  rw [List.getElem?_append_right (Nat.le_refl _)] at hl
  simp at hl
  subst hl
  refine ⟨vs, e, ?_, ?_, by simpa using hr.length, ?_⟩
  · simp only [Gh.newObj, if_true]; exact heap_alloc_new _ _
  · intro off; simp [Gh.newObj]
  · intro j av hj
    obtain ⟨v, h1, h2⟩ := hr.get j av hj
    refine ⟨v, by simpa using h1, h2.later (hg.later (by simp)), (hno av (List.mem_of_getElem? hj)).spare⟩

end Go.Abs
