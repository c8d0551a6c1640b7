/- Steps of the world. -/
import Derived.Test.YtgbedffflggenaaDoorAbsD
set_option linter.all false
namespace Go.Abs
open Go Go.RowKit

theorem Stable.trans {w0 g0 n0 w g n w' g'} (h : Stable w0 g0 n0 w g) (h' : Stable w g n w' g') (hn : n0 ≤ n) : Stable w0 g0 n0 w' g' where
  size := Nat.le_trans h.size h'.size
  os := h'.os.trans h.os
  output := h'.output.trans h.output
  tape := h'.tape.trans h.tape
  blk := fun b hb ho => by
    rw [h'.blk b (Nat.lt_of_lt_of_le hb h.size) (fun off => (ho off).imp (h.own b off hb).1 (h.own b off hb).2)]
    exact h.blk b hb ho
  cel := fun b c e fr hc hx => by
    have hb : b < w0.heap.size := by
      rcases Nat.lt_or_ge b w0.heap.size with h | h
      · exact h
      · simp [Array.getElem?_eq_none h] at hc
    obtain ⟨c1, fr1, h1, h2, h3⟩ := h.cel b c e fr hc hx
    obtain ⟨c2, fr2, h4, h5, h6⟩ := h'.cel b c1 e fr1 h1 (let ⟨off, ho⟩ := hx; ⟨off, ho.imp (h.own b off hb).1 (h.own b off hb).2⟩)
    exact ⟨c2, fr2, h4, h5.trans h2, fun off ho => ⟨(h6 off (ho.imp (h.own b off hb).1 (h.own b off hb).2)).1.trans (h3 off ho).1, (h6 off (ho.imp (h.own b off hb).1 (h.own b off hb).2)).2.trans (h3 off ho).2⟩⟩
  own := fun b off hb => ⟨fun ho => (h'.own b off (Nat.lt_of_lt_of_le hb h.size)).1 ((h.own b off hb).1 ho), fun ho => (h'.own b off (Nat.lt_of_lt_of_le hb h.size)).2 ((h.own b off hb).2 ho)⟩
  loc := fun id hi => (h'.loc id (Nat.lt_of_lt_of_le hi hn)).trans (h.loc id hi)

def KeepsSp (w : World) (g : Gh) (w' : World) (g' : Gh) (s : Slot) : Prop :=
  ∀ b off u, g.own b off = .sp s → w.cell? ⟨b, off, none⟩ = some u → w.frozen? ⟨b, off, none⟩ = false →
    g'.own b off = .sp s ∧ (∃ u', w'.cell? ⟨b, off, none⟩ = some u') ∧ w'.frozen? ⟨b, off, none⟩ = false

/-- What an object's cell keeps to itself as a builder's text stays. -/
def KeepsBuf (w : World) (g : Gh) (w' : World) (g' : Gh) (id : Nat) : Prop :=
  ∀ b j, b < w.heap.size → (∀ off, g.own b off = .sp (.cell id j)) → w'.heap[b]? = w.heap[b]? ∧ ∀ off, g'.own b off = .sp (.cell id j)

theorem buf_keep {w w' : World} {te : TypeId} {v : Value} {n : Nat} {xs : List Value} (h : w.ownsRowF 0 te 1 v n xs) (hb : ∀ k, v.ownBlock = some k → w'.heap[k]? = w.heap[k]?) : w'.ownsRowF 0 te 1 v n xs := by
  refine ⟨h.1, ?_⟩
  rcases h.2 with hn | ⟨g, cap, cur, fz, rfl, h1, h2, rest⟩
  · exact .inl hn
  · exact .inr ⟨g, cap, cur, fz, rfl, h1, by rw [hb g rfl]; exact h2, rest⟩

theorem TmpsOk.step {w g n tmps ts w' g' n'} (h : TmpsOk w g n tmps ts) (hl : Later w g n w' g' n') (hs : ∀ i, KeepsSp w g w' g' (.tmp i)) : TmpsOk w' g' n' tmps ts :=
  fun i => ⟨(h i).1.later hl, (h i).2.later hl (hs i)⟩

theorem CellsOk.step {w g n id l vs e w' g' n'} (h : CellsOk w g n id l vs e) (hid : id < n) (hl : Later w g n w' g' n') (hb : w'.heap[g.loc id]? = w.heap[g.loc id]?)
    (ho : ∀ off, g'.own (g.loc id) off = g.own (g.loc id) off) (hs : ∀ j, KeepsSp w g w' g' (.cell id j)) (hk : KeepsBuf w g w' g' id) : CellsOk w' g' n' id l vs e where
  blk := by rw [hl.loc id hid, hb]; exact h.blk
  own := fun off => by rw [hl.loc id hid, ho]; exact h.own off
  size := h.size
  rep := fun j av hj => let ⟨v, h1, h2, h3⟩ := h.rep j av hj; ⟨v, h1, h2.later hl, h3.later hl (hs j)⟩
  bp := fun e' h' => by rw [hl.loc id hid]; exact h.bp e' h'
  buf := fun j te b hj => let ⟨v, h1, h2, h3⟩ := h.buf j te b hj
    ⟨v, h1, buf_keep h2 (fun k hv => (hk k j (h2.lt k hv).2 (h3 k hv)).1), fun k hv => (hk k j (h2.lt k hv).2 (h3 k hv)).2⟩

theorem GlOk.later {E w g w' g'} (h : GlOk E w g) (hl : Later w g 0 w' g' 0) : GlOk E w' g' :=
  fun i cs hi => let ⟨vs, h1, h2, ⟨e, fr, h3⟩, h4⟩ := h i cs hi; let ⟨h5, h6⟩ := hl.blk i _ h3 h4; ⟨vs, h1.later hl, Reps.later hl _ _ h2, ⟨e, fr, h5⟩, h6⟩

theorem Later.to_zero {w g n w' g' n'} (h : Later w g n w' g' n') : Later w g 0 w' g' 0 := ⟨Nat.le_refl _, (fun _ hi => absurd hi (Nat.not_lt_zero _)), h.com, h.blk⟩

/-- The world has grown: what was there is as it was. -/
structure Grown (w : World) (g : Gh) (n : Nat) (w' : World) (g' : Gh) : Prop where
  size : w.heap.size ≤ w'.heap.size
  os : w'.os = w.os
  output : w'.output = w.output
  tape : w'.tape = w.tape
  blk : ∀ b, b < w.heap.size → w'.heap[b]? = w.heap[b]?
  own : ∀ b off, b < w.heap.size → g'.own b off = g.own b off
  loc : ∀ id, id < n → g'.loc id = g.loc id
  gok : GOk w' g'

theorem Grown.refl {w g n} (h : GOk w g) : Grown w g n w g := ⟨Nat.le_refl _, rfl, rfl, rfl, fun _ _ => rfl, fun _ _ _ => rfl, fun _ _ => rfl, h⟩

theorem Grown.cell {w g n w' g'} (h : Grown w g n w' g') {b off u} (hc : w.cell? ⟨b, off, none⟩ = some u) : w'.cell? ⟨b, off, none⟩ = some u := by
  have hb := World.block_lt_of_cell? w _ hc
  rw [World.cell?_of_block (w := w) (h.blk b hb)]
  exact hc

theorem Grown.later {w g n w' g' n'} (h : Grown w g n w' g') (hn : n ≤ n') : Later w g n w' g' n' where
  le := hn
  loc := h.loc
  blk := fun b o hb ho => by
    have hlt : b < w.heap.size := by
      rcases Nat.lt_or_ge b w.heap.size with h' | h'
      · exact h'
      · simp [Array.getElem?_eq_none h'] at hb
    exact ⟨by rw [h.blk b hlt]; exact hb, fun off => by rw [h.own b off hlt]; exact ho off⟩
  com := fun b off u hc ho => ⟨h.cell hc, by rw [h.own b off (World.block_lt_of_cell? w _ hc)]; exact ho⟩

theorem Grown.keepsSp {w g n w' g'} (h : Grown w g n w' g') (s : Slot) : KeepsSp w g w' g' s := fun b off u ho hc hf => by
  have hb := World.block_lt_of_cell? w _ hc
  exact ⟨by rw [h.own b off hb]; exact ho, ⟨u, h.cell hc⟩, by rw [World.frozen?_of_block (w := w) (h.blk b hb)]; exact hf⟩

theorem Grown.stable {w g n w' g'} (h : Grown w g n w' g') : Stable w g n w' g' where
  size := h.size
  os := h.os
  output := h.output
  tape := h.tape
  blk := fun b hb _ => h.blk b hb
  cel := fun b c e fr hc _ => by
    have hb : b < w.heap.size := by
      rcases Nat.lt_or_ge b w.heap.size with h | h
      · exact h
      · simp [Array.getElem?_eq_none h] at hc
    exact ⟨c, fr, by rw [h.blk b hb]; exact hc, rfl, fun _ _ => ⟨rfl, rfl⟩⟩
  own := fun b off hb => ⟨fun ho => by rw [h.own b off hb]; exact ho, fun ho => by rw [h.own b off hb]; exact ho⟩
  loc := h.loc

theorem lt_of_heap {w : World} {b : Nat} {o : Obj} (h : w.heap[b]? = some o) : b < w.heap.size := by
  rcases Nat.lt_or_ge b w.heap.size with h' | h'
  · exact h'
  · simp [Array.getElem?_eq_none h'] at h

theorem Grown.cells {w g n w' g' n' id l vs e} (h : Grown w g n w' g') (hn : n ≤ n') (hc : CellsOk w g n id l vs e) (hid : id < n) : CellsOk w' g' n' id l vs e :=
  have hb := lt_of_heap hc.blk
  hc.step hid (h.later hn) (h.blk _ hb) (fun off => h.own _ off hb) (fun j => h.keepsSp _) (fun b j hbl ho => ⟨h.blk b hbl, fun off => by rw [h.own b off hbl]; exact ho off⟩)

theorem Grown.heapOk {w g w' g' h h'} (hg : Grown w g h.length w' g') (hh : HeapOk w g h) (hpre : h <+: h')
    (hnew : ∀ id l, h.length ≤ id → h'[id]? = some (.cells l) → ∃ vs e, CellsOk w' g' h'.length id l vs e) : HeapOk w' g' h' := by
  intro id l hl
  rcases Nat.lt_or_ge id h.length with hlt | hge
  · have : h[id]? = some (.cells l) := by
      obtain ⟨t, rfl⟩ := hpre
      rw [List.getElem?_append_left hlt] at hl
      exact hl
    obtain ⟨vs, e, hc⟩ := hh id l this
    exact ⟨vs, e, hg.cells hpre.length_le hc hlt⟩
  · exact hnew id l hge hl

/-- An activation in a world that has grown, with more objects. -/
theorem RA.grow {E B σ a w g w' g' h'} (h : RA E B σ a w g) (hg : Grown w g σ.heap.length w' g') (hpre : σ.heap <+: h')
    (hnew : ∀ id l, σ.heap.length ≤ id → h'[id]? = some (.cells l) → ∃ vs e, CellsOk w' g' h'.length id l vs e) : RA E B { σ with heap := h' } a w' g' where
  nt := h.nt
  gok := hg.gok
  gl := h.gl.later (hg.later hpre.length_le).to_zero
  tmps := h.tmps.step (hg.later hpre.length_le) (fun i => hg.keepsSp _)
  heap := hg.heapOk h.heap hpre hnew
  st := h.st.trans hg.stable h.n0
  n0 := Nat.le_trans h.n0 hpre.length_le
  defers := h.defers

theorem RA.grow' {E B σ a w g w' g'} (h : RA E B σ a w g) (hg : Grown w g σ.heap.length w' g') : RA E B σ a w' g' :=
  h.grow hg (List.prefix_refl _) (fun id l hid hl => by rw [List.getElem?_eq_none hid] at hl; cases hl)

/-- The ghost of one new block. -/
def Gh.new (g : Gh) (b : Nat) (o : Nat → Own) : Gh := { g with own := fun b' off => if b' = b then o off else g.own b' off }
def Gh.newObj (g : Gh) (b id : Nat) : Gh := { own := fun b' off => if b' = b then .obj id else g.own b' off, loc := fun i => if i = id then b else g.loc i }

theorem grown_alloc {w g n} (hk : GOk w g) (o : Obj) (f : Nat → Own) : Grown w g n (w.alloc o) (g.new w.heap.size f) where
  size := by simp
  os := rfl
  output := rfl
  tape := rfl
  blk := fun b hb => by show (w.heap.push o)[b]? = _; rw [Array.getElem?_push, if_neg (by omega)]
  own := fun b off hb => by simp only [Gh.new]; rw [if_neg (by omega)]
  loc := fun _ _ => rfl
  gok := fun b off ho => by
    simp only [Gh.new] at ho
    split at ho
    · simp_all
    · have := hk b off ho; simp; omega

theorem grown_allocObj {w g n} (hk : GOk w g) (o : Obj) : Grown w g n (w.alloc o) (g.newObj w.heap.size n) where
  size := by simp
  os := rfl
  output := rfl
  tape := rfl
  blk := fun b hb => by show (w.heap.push o)[b]? = _; rw [Array.getElem?_push, if_neg (by omega)]
  own := fun b off hb => by simp only [Gh.newObj]; rw [if_neg (by omega)]
  loc := fun id hi => by simp only [Gh.newObj]; rw [if_neg (by omega)]
  gok := fun b off ho => by
    simp only [Gh.newObj] at ho
    split at ho
    · simp_all
    · have := hk b off ho; simp; omega

theorem heap_alloc_new (w : World) (o : Obj) : (w.alloc o).heap[w.heap.size]? = some o := by show (w.heap.push o)[w.heap.size]? = _; simp

/-- A new object: what its cells stand for. -/
theorem RA.newObj {E B σ a w g} (h : RA E B σ a w g) {l : List AV} {vs : Array Value} {e : TypeId} (hr : Reps w g σ.heap.length l vs.toList) (hno : ∀ av ∈ l, NoOwn av) :
    RA E B { σ with heap := σ.heap ++ [.cells l] } a (w.alloc (.cells vs e)) (g.newObj w.heap.size σ.heap.length) ∧
      (g.newObj w.heap.size σ.heap.length).loc σ.heap.length = w.heap.size := by
  have hg := grown_allocObj (n := σ.heap.length) h.gok (.cells vs e)
  refine ⟨h.grow hg (List.prefix_append _ _) fun id l' hid hl => ?_, by simp [Gh.newObj]⟩
  have hid' : id = σ.heap.length := by
    rcases Nat.lt_or_ge σ.heap.length id with h' | h'
    · rw [List.getElem?_eq_none (by simp; omega)] at hl; cases hl
    · omega
  subst hid'
  rw [List.getElem?_append_right (Nat.le_refl _)] at hl
  simp at hl
  subst hl
  refine ⟨vs, e, ?_, ?_, by simpa using hr.length, ?_, ?_, ?_⟩
  · simp only [Gh.newObj, if_true]; exact heap_alloc_new _ _
  · intro off; simp [Gh.newObj]
  · intro j av hj
    obtain ⟨v, h1, h2⟩ := hr.get j av hj
    refine ⟨v, by simpa using h1, h2.later (hg.later (by simp)), (hno av (List.mem_of_getElem? hj)).spare⟩
  · intro e' he; exact absurd rfl ((hno _ (List.mem_of_getElem? he)).2.1 _)
  · intro j te b hb; exact absurd rfl ((hno _ (List.mem_of_getElem? hb)).2.2 _ _)


/-- A new record that begins with a builder. -/
theorem RA.newBld {E B σ a w g} (h : RA E B σ a w g) {l : List AV} {vs : List Value} {e te : TypeId} (hr : Reps w g σ.heap.length l vs) (hno : ∀ av ∈ l, NoOwn av) :
    RA E B { σ with heap := σ.heap ++ [.cells (.bp e :: .buf te [] :: l)] } a (w.alloc (.cells (Value.pointer none :: Value.slice none 0 0 :: vs).toArray e)) (g.newObj w.heap.size σ.heap.length) ∧
      (g.newObj w.heap.size σ.heap.length).loc σ.heap.length = w.heap.size := by
  have hg := grown_allocObj (n := σ.heap.length) h.gok (.cells (Value.pointer none :: Value.slice none 0 0 :: vs).toArray e)
  refine ⟨h.grow hg (List.prefix_append _ _) fun id l' hid hl => ?_, by simp [Gh.newObj]⟩
  have hid' : id = σ.heap.length := by
    rcases Nat.lt_or_ge σ.heap.length id with h' | h'
    · rw [List.getElem?_eq_none (by simp; omega)] at hl; cases hl
    · omega
  subst hid'
  rw [List.getElem?_append_right (Nat.le_refl _)] at hl
  simp at hl
  subst hl
  have hlen := hr.length
  refine ⟨(Value.pointer none :: Value.slice none 0 0 :: vs).toArray, e, ?_, ?_, by simp [hlen], ?_, ?_, ?_⟩
  · simp only [Gh.newObj, if_true]; exact heap_alloc_new _ _
  · intro off; simp [Gh.newObj]
  · intro j av hj
    match j, hj with
    | 0, hj => cases hj; exact ⟨_, rfl, by simp [Rep], trivial⟩
    | 1, hj => cases hj; exact ⟨_, rfl, by simp [Rep], trivial⟩
    | j + 2, hj =>
      simp only [List.getElem?_cons_succ] at hj
      obtain ⟨v, h1, h2⟩ := hr.get j av hj
      exact ⟨v, by simpa using h1, h2.later (hg.later (by simp)), (hno av (List.mem_of_getElem? hj)).spare⟩
  · intro e' he; cases he; exact ⟨rfl, .inl rfl⟩
  · intro j te' b hb
    match j, hb with
    | 1, hb => cases hb; exact ⟨_, rfl, ⟨by simp [Lib.byteCells], .inl ⟨rfl, rfl⟩⟩, fun k hk => by simp [Value.ownBlock] at hk⟩
    | j + 2, hb =>
      simp only [List.getElem?_cons_succ] at hb
      exact absurd rfl ((hno _ (List.mem_of_getElem? hb)).2.2 _ _)

end Go.Abs

namespace Go.Abs
open Go Go.RowKit

def setRow : World → Nat → Nat → List Value → World
  | w, _, _, [] => w
  | w, b, off, v :: vs => setRow (w.setCell ⟨b, off, none⟩ v) b (off + 1) vs

theorem setCell_block (w : World) (b off : Nat) (v : Value) {c : Array Value} {e : TypeId} {fr : Nat × Nat} (h : w.heap[b]? = some (.cells c e fr)) :
    (w.setCell ⟨b, off, none⟩ v).heap[b]? = some (.cells (c.setIfInBounds off v) e fr) := by
  simp [World.setCell, Array.getElem?_modify, h]

theorem setCell_other (w : World) (b off : Nat) (v : Value) (b' : Nat) (h : b' ≠ b) : (w.setCell ⟨b, off, none⟩ v).heap[b']? = w.heap[b']? := by
  simp only [World.setCell, Array.getElem?_modify]
  rw [if_neg (by omega)]

theorem setRow_misc : ∀ (vs : List Value) (w : World) (b off : Nat), (setRow w b off vs).os = w.os ∧ (setRow w b off vs).output = w.output ∧ (setRow w b off vs).tape = w.tape ∧
    (setRow w b off vs).heap.size = w.heap.size ∧ ∀ b', b' ≠ b → (setRow w b off vs).heap[b']? = w.heap[b']?
  | [], w, b, off => ⟨rfl, rfl, rfl, rfl, fun _ _ => rfl⟩
  | v :: vs, w, b, off => by
    obtain ⟨h1, h2, h3, h4, h5⟩ := setRow_misc vs (w.setCell ⟨b, off, none⟩ v) b (off + 1)
    exact ⟨h1, h2, h3, by rw [setRow, h4]; simp, fun b' hb' => by rw [setRow, h5 b' hb']; exact setCell_other w b off v b' hb'⟩

theorem setRow_block : ∀ (vs : List Value) (w : World) (b off : Nat) (c : Array Value) (e : TypeId) (fr : Nat × Nat), w.heap[b]? = some (.cells c e fr) → off + vs.length ≤ c.size →
    ∃ c', (setRow w b off vs).heap[b]? = some (.cells c' e fr) ∧ c'.size = c.size ∧ (∀ j, j < off ∨ off + vs.length ≤ j → c'[j]? = c[j]?) ∧ (∀ j, j < vs.length → c'[off + j]? = vs[j]?)
  | [], w, b, off, c, e, fr, h, _ => ⟨c, h, rfl, fun _ _ => rfl, fun j hj => by simp at hj⟩
  | v :: vs, w, b, off, c, e, fr, h, hle => by
    simp only [List.length_cons] at hle
    obtain ⟨c', h1, h2, h3, h4⟩ := setRow_block vs _ b (off + 1) _ e fr (setCell_block w b off v h) (by simp; omega)
    refine ⟨c', h1, by simpa using h2, fun j hj => ?_, fun j hj => ?_⟩
    · rw [h3 j (by simp only [List.length_cons] at hj; omega), Array.getElem?_setIfInBounds]
      simp only [List.length_cons] at hj
      rw [if_neg (by omega)]
    · cases j with
      | zero =>
        rw [h3 _ (by omega), Array.getElem?_setIfInBounds]
        simp; omega
      | succ j =>
        have := h4 j (by simp only [List.length_cons] at hj; omega)
        rw [show off + (j + 1) = off + 1 + j by omega, this]
        simp

theorem frozen_of_block {w : World} {b off : Nat} {c e} {lo hi : Nat} (h : w.heap[b]? = some (.cells c e (lo, hi))) : w.frozen? ⟨b, off, none⟩ = (decide (lo ≤ off) && decide (off < hi)) := by
  simp [World.frozen?, h]

theorem run_storeCells {P : Program} : ∀ (vs : List Value) (w : World) (b off i : Nat), (∀ v ∈ vs, v.oneCell' = true) →
    (∀ j, j < vs.length → (∃ u, w.cell? ⟨b, off + i + j, none⟩ = some u) ∧ w.frozen? ⟨b, off + i + j, none⟩ = false) →
    (storeCells ⟨b, off, none⟩ vs i).run P w = .ok () (setRow w b (off + i) vs)
  | [], w, b, off, i, _, _ => rfl
  | v :: vs, w, b, off, i, h1, h2 => by
    obtain ⟨⟨u, hu⟩, hf⟩ := h2 0 (by simp)
    simp only [Nat.add_zero] at hu hf
    simp only [storeCells, Sem.run_bind, addr_add]
    rw [run_store P w _ v _ (h1 v (by simp)), hu]
    simp only [hf, Bool.false_eq_true, if_false, Result.andThen_ok]
    rw [run_storeCells vs _ b off (i + 1) (fun x hx => h1 x (by simp [hx]))]
    · simp [setRow, Nat.add_assoc]
    · intro j hj
      obtain ⟨⟨u', hu'⟩, hf'⟩ := h2 (j + 1) (by simp; omega)
      rw [show off + (i + 1) + j = off + i + (j + 1) by omega]
      refine ⟨⟨u', ?_⟩, ?_⟩
      · rw [World.cell?_setCell_other]
        · exact hu'
        · intro hh; injection hh with _ hh; omega
      · rw [World.frozen?_setCell]; exact hf'

/-- Values of one cell each. -/
def AV.one : AV → Bool
  | .any => false
  | .agg _ => false
  | .tup _ => false
  | .bp _ => false
  | .buf _ _ => false
  | .lit v => v.oneCell'
  | _ => true

theorem Rep.one {w g n} : ∀ {av : AV} {v : Value}, av.one = true → Rep w g n av v → v.oneCell' = true := by
  intro av v h hr
  cases av <;> simp [AV.one] at h <;> simp only [Rep] at hr
  · subst hr; exact h
  · obtain ⟨_, _, _, rfl, _⟩ := hr; rfl
  · obtain ⟨_, _, _, rfl, _⟩ := hr; rfl
  · obtain ⟨rfl, _⟩ := hr; rfl
  · obtain ⟨rfl, _⟩ := hr; rfl
  · obtain ⟨_, _, rfl, _⟩ := hr; rfl
  · obtain ⟨_, rfl, _⟩ := hr; rfl

theorem Reps.ones {w g n} : ∀ {as : List AV} {vs : List Value}, as.all AV.one = true → Reps w g n as vs → ∀ v ∈ vs, v.oneCell' = true
  | [], vs, _, h, v, hv => by simp [Reps] at h; subst h; cases hv
  | a :: as, vs, ho, h, v, hv => by
    obtain ⟨u, rest, rfl, h1, h2⟩ := Reps.cons.1 h
    simp at ho
    rcases List.mem_cons.1 hv with rfl | hv
    · exact h1.one ho.1
    · exact Reps.ones (by simpa using ho.2) h2 v hv

/-- A write to an object's cells. -/
theorem RA.write {E B σ a w g} (h : RA E B σ a w g) {id off : Nat} {l avs : List AV} {vs : List Value} (hl : σ.heap[id]? = some (.cells l)) (hr : Reps w g σ.heap.length avs vs)
    (hno : ∀ av ∈ avs, NoOwn av) (hle : off + avs.length ≤ l.length) :
    RA E B { σ with heap := σ.heap.set id (.cells (setMany l off avs)) } a (setRow w (g.loc id) off vs) g := by
  obtain ⟨cs, e, hc⟩ := h.heap id l hl
  have hid : id < σ.heap.length := by
    rcases Nat.lt_or_ge id σ.heap.length with h' | h'
    · exact h'
    · rw [List.getElem?_eq_none h'] at hl; cases hl
  have hlen : vs.length = avs.length := hr.length
  obtain ⟨h1, h2, h3, h4, h5⟩ := setRow_misc vs w (g.loc id) off
  obtain ⟨c', h6, h7, h8, h9⟩ := setRow_block vs w (g.loc id) off cs e (0, 0) hc.blk (by rw [hlen, hc.size]; exact hle)
  have hb : ∀ b off', g.own b off' ≠ .obj id → b ≠ g.loc id := fun b off' ho hbb => ho (by rw [hbb]; exact hc.own off')
  have hlater : Later w g σ.heap.length (setRow w (g.loc id) off vs) g (σ.heap.set id (.cells (setMany l off avs))).length := by
    refine ⟨by simp, fun _ _ => rfl, fun b off' u hcu ho => ⟨?_, ho⟩, fun b o hbo ho => ⟨by rw [h5 b (hb b 0 (by rw [ho 0]; simp))]; exact hbo, ho⟩⟩
    rw [World.cell?_of_block (w := w) (h5 b (hb b off' (by rw [ho]; simp)))]
    exact hcu
  have hks : ∀ s, KeepsSp w g (setRow w (g.loc id) off vs) g s := fun s b off' u ho hcu hf => by
    have hbb := h5 b (hb b off' (by rw [ho]; simp))
    exact ⟨ho, ⟨u, by rw [World.cell?_of_block (w := w) hbb]; exact hcu⟩, by rw [World.frozen?_of_block (w := w) hbb]; exact hf⟩
  have hkb : ∀ id', KeepsBuf w g (setRow w (g.loc id) off vs) g id' := fun id' b j hbl ho =>
    ⟨h5 b (hb b 0 (by rw [ho 0]; simp)), ho⟩
  refine ⟨h.nt, fun b off' ho => by rw [h4]; exact h.gok b off' ho, h.gl.later hlater.to_zero, h.tmps.step hlater (fun i => hks _), ?_, ?_, by simpa using h.n0, h.defers⟩
  · intro id' l' hl'
    by_cases hii : id = id'
    · subst hii
      simp only [List.getElem?_set_self hid] at hl'
      cases hl'
      have hset : ∀ (avs l : List AV) (off j : Nat), (setMany l off avs)[j]? = if off ≤ j ∧ j < off + avs.length ∧ j < l.length then avs[j - off]? else l[j]? := by
        intro avs
        induction avs with
        | nil => intro l off j; simp [setMany]; omega
        | cons x avs ih =>
          intro l off j
          simp only [setMany, ih, List.length_set, List.length_cons]
          by_cases hj : j = off
          · subst hj
            rw [if_neg (by omega)]
            by_cases hjl : j < l.length
            · rw [if_pos (by omega)]; simp [hjl]
            · rw [if_neg (by omega), List.getElem?_eq_none (by simpa using hjl), List.getElem?_eq_none (by simpa using hjl)]
          · by_cases hc2 : off + 1 ≤ j ∧ j < off + 1 + avs.length ∧ j < l.length
            · rw [if_pos hc2, if_pos (by omega), show j - off = (j - (off + 1)) + 1 by omega]; simp
            · rw [if_neg hc2, if_neg (by omega), List.getElem?_set_ne (by omega)]
      have hlt : ∀ {j : Nat} {av : AV}, l[j]? = some av → j < l.length := fun {j av} hj => by
        rcases Nat.lt_or_ge j l.length with h' | h'
        · exact h'
        · rw [List.getElem?_eq_none h'] at hj; cases hj
      refine ⟨c', e, h6, hc.own, by rw [h7, hc.size, setMany_length], ?_, ?_, ?_⟩
      rotate_left
      · intro e' he
        rw [hset] at he
        split at he
        · exact absurd rfl ((hno _ (List.mem_of_getElem? he)).2.1 _)
        · rename_i hjj
          rw [h8 0 (by have := hlt he; omega)]
          exact hc.bp e' he
      · intro j te b he
        rw [hset] at he
        split at he
        · exact absurd rfl ((hno _ (List.mem_of_getElem? he)).2.2 _ _)
        · rename_i hjj
          obtain ⟨v, q1, q2, q3⟩ := hc.buf j te b he
          exact ⟨v, by rw [h8 j (by have := hlt he; omega)]; exact q1, buf_keep q2 (fun k hv => (hkb id k j (q2.lt k hv).2 (q3 k hv)).1), q3⟩
      intro j av hj
      rw [hset] at hj
      split at hj
      · rename_i hjj
        obtain ⟨v, hv1, hv2⟩ := hr.get _ _ hj
        refine ⟨v, ?_, hv2.later hlater, (hno av (List.mem_of_getElem? hj)).spare⟩
        have := h9 (j - off) (by omega)
        rw [show off + (j - off) = j by omega] at this
        rw [this]; exact hv1
      · rename_i hjj
        obtain ⟨v, hv1, hv2, hv3⟩ := hc.rep j av hj
        have hjl : j < l.length := by
          rcases Nat.lt_or_ge j l.length with h' | h'
          · exact h'
          · rw [List.getElem?_eq_none h'] at hj; cases hj
        refine ⟨v, by rw [h8 j (by omega)]; exact hv1, hv2.later hlater, hv3.later hlater (hks _)⟩
    · rw [List.getElem?_set_ne hii] at hl'
      obtain ⟨vs', e', hc'⟩ := h.heap id' l' hl'
      have hid' : id' < σ.heap.length := by
        rcases Nat.lt_or_ge id' σ.heap.length with h' | h'
        · exact h'
        · rw [List.getElem?_eq_none h'] at hl'; cases hl'
      refine ⟨vs', e', hc'.step hid' hlater (h5 _ (hb _ 0 ?_)) (fun _ => rfl) (fun j => hks _) (hkb _)⟩
      rw [hc'.own 0]; intro hh; cases hh; exact hii rfl
  · refine h.st.trans (n := σ.heap.length) ⟨by rw [h4]; exact Nat.le_refl _, h1, h2, h3, fun b hbl ho => h5 b ?_, fun b c2 e2 fr2 hcc _ => ?_, fun _ _ _ => ⟨id_of, id_of⟩, fun _ _ => rfl⟩ h.n0
    · refine hb b 0 ?_
      rcases ho 0 with ho | ho <;> rw [ho] <;> simp
    · by_cases hbb : b = g.loc id
      · subst hbb
        rw [hc.blk] at hcc
        cases hcc
        refine ⟨c', _, h6, h7, fun off' ho => ?_⟩
        rcases ho with ho | ho <;> rw [hc.own] at ho <;> cases ho
      · exact ⟨c2, fr2, by rw [h5 b hbb]; exact hcc, rfl, fun _ _ => ⟨rfl, rfl⟩⟩
  where
  id_of {p : Prop} (h : p) : p := h

end Go.Abs
