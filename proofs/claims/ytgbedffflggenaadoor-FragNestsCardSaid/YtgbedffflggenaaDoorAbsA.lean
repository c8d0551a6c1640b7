/- Abstract values, abstract states, their relation to the machine's worlds. -/
import Derived.Orders
import Derived.WalkKit
import Derived.Lib.FrozenHead
set_option linter.all false
namespace Go.Abs
open Go

/-- What is known of a slice's room behind its end. -/
inductive Cap where
  | unk | full | own (k : Nat)
  deriving DecidableEq, Inhabited

inductive AV where
  | any
  | lit (v : Value)
  | agg (cs : List AV)
  | tup (vs : List AV)
  | sl (c : Cap) (es : List AV)
  | cp (cs : List AV)
  | ref (id off : Nat)
  | vw (id off len cap : Nat)
  | fn (f : Fn) (first caps : List AV)
  | ifc (t : TypeId) (v : AV)
  | bp (e : TypeId)
  | buf (te : TypeId) (l : List UInt8)
  deriving Inhabited

def AV.cells : AV → List AV
  | .agg cs => cs
  | v => [v]

def AV.strip : AV → AV
  | .sl (.own _) es => .sl .unk es
  | .bp _ => .any
  | .buf _ _ => .any
  | v => v

inductive Slot where
  | tmp (i : Nat)
  | cell (id off : Nat)
  deriving DecidableEq

inductive Own where
  | none | com | obj (id : Nat) | sp (s : Slot)
  deriving DecidableEq

structure Gh where
  own : Nat → Nat → Own
  loc : Nat → Nat

/-- The cells from (b, off) on hold these values, and nobody will write them. -/
def Holds (w : World) (g : Gh) (b off : Nat) (vs : List Value) : Prop :=
  ∀ j u, vs[j]? = some u → w.cell? ⟨b, off + j, none⟩ = some u ∧ g.own b (off + j) = .com

mutual
def Rep (w : World) (g : Gh) (n : Nat) : AV → Value → Prop
  | .any, _ => True
  | .lit v, x => x = v
  | .agg cs, x => ∃ vs, x = .agg vs ∧ Reps w g n cs vs.toList
  | .tup cs, x => ∃ vs, x = .tuple vs ∧ Reps w g n cs vs.toList
  | .sl c es, x => ∃ base len cap, x = .slice base len cap ∧ es.length = len ∧ len ≤ cap ∧ (c = .full → cap = len) ∧
      (base = none → cap = 0) ∧ (∀ a, base = some a → (0 < cap → a.spot = none) ∧ ∃ k, Els w g n es a.block a.off k)
  | .cp cs, x => ∃ b off vs, x = .pointer (some ⟨b, off, none⟩) ∧ Holds w g b off vs ∧ Reps w g n cs vs
  | .ref id off, x => x = .pointer (some ⟨g.loc id, off, none⟩) ∧ id < n
  | .vw id off len cap, x => x = .slice (some ⟨g.loc id, off, none⟩) len cap ∧ id < n ∧ len ≤ cap
  | .fn f first caps, x => ∃ fa ca, x = .func f fa ca ∧ Reps w g n first fa.toList ∧ Reps w g n caps ca.toList
  | .ifc t v, x => ∃ y, x = .iface t y ∧ Rep w g n v y
  | .bp _, _ => True
  | .buf _ _, _ => True
def Reps (w : World) (g : Gh) (n : Nat) : List AV → List Value → Prop
  | [], vs => vs = []
  | a :: as, vs => ∃ v rest, vs = v :: rest ∧ Rep w g n a v ∧ Reps w g n as rest
def Els (w : World) (g : Gh) (n : Nat) : List AV → (b off k : Nat) → Prop
  | [], _, _, _ => True
  | e :: es, b, off, k => (∃ v, Rep w g n e v ∧ v.cells.size = k ∧ Holds w g b off v.cells.toList) ∧ Els w g n es b (off + k) k
end

/-- A later world: what is committed stays, the objects' places stay. -/
structure Later (w : World) (g : Gh) (n : Nat) (w' : World) (g' : Gh) (n' : Nat) : Prop where
  le : n ≤ n'
  loc : ∀ id, id < n → g'.loc id = g.loc id
  com : ∀ b off u, w.cell? ⟨b, off, none⟩ = some u → g.own b off = .com → w'.cell? ⟨b, off, none⟩ = some u ∧ g'.own b off = .com
  blk : ∀ b o, w.heap[b]? = some o → (∀ off, g.own b off = .com) → w'.heap[b]? = some o ∧ ∀ off, g'.own b off = .com

theorem Later.refl (w : World) (g : Gh) (n : Nat) : Later w g n w g n := ⟨Nat.le_refl _, fun _ _ => rfl, fun _ _ _ h h' => ⟨h, h'⟩, fun _ _ h h' => ⟨h, h'⟩⟩
theorem Later.trans {w g n w' g' n' w'' g'' n''} (h : Later w g n w' g' n') (h' : Later w' g' n' w'' g'' n'') : Later w g n w'' g'' n'' :=
  ⟨Nat.le_trans h.le h'.le, fun id hi => (h'.loc id (Nat.lt_of_lt_of_le hi h.le)).trans (h.loc id hi),
   fun b off u hc ho => let ⟨h1, h2⟩ := h.com b off u hc ho; h'.com b off u h1 h2, fun b o hc ho => let ⟨h1, h2⟩ := h.blk b o hc ho; h'.blk b o h1 h2⟩

theorem Holds.later {w g n w' g' n'} (hl : Later w g n w' g' n') {b off vs} (h : Holds w g b off vs) : Holds w' g' b off vs :=
  fun j u hj => let ⟨h1, h2⟩ := h j u hj; hl.com _ _ _ h1 h2

mutual
theorem Rep.later {w g n w' g' n'} (hl : Later w g n w' g' n') : ∀ (av : AV) (v : Value), Rep w g n av v → Rep w' g' n' av v
  | .any, _, _ => by simp [Rep]
  | .lit _, _, h => by simpa [Rep] using h
  | .agg cs, v, h => by
    simp only [Rep] at h ⊢
    obtain ⟨vs, rfl, h⟩ := h
    exact ⟨vs, rfl, Reps.later hl cs _ h⟩
  | .tup cs, v, h => by
    simp only [Rep] at h ⊢
    obtain ⟨vs, rfl, h⟩ := h
    exact ⟨vs, rfl, Reps.later hl cs _ h⟩
  | .sl c es, v, h => by
    simp only [Rep] at h ⊢
    obtain ⟨base, len, cap, rfl, h1, h2, h3, h4, h5⟩ := h
    exact ⟨base, len, cap, rfl, h1, h2, h3, h4, fun a ha => let ⟨h6, k, h7⟩ := h5 a ha; ⟨h6, k, Els.later hl es _ _ _ h7⟩⟩
  | .cp cs, v, h => by
    simp only [Rep] at h ⊢
    obtain ⟨b, off, vs, rfl, h1, h2⟩ := h
    exact ⟨b, off, vs, rfl, h1.later hl, Reps.later hl cs _ h2⟩
  | .ref id off, v, h => by
    simp only [Rep] at h ⊢
    exact ⟨by rw [hl.loc id h.2]; exact h.1, Nat.lt_of_lt_of_le h.2 hl.le⟩
  | .vw id off len cap, v, h => by
    simp only [Rep] at h ⊢
    exact ⟨by rw [hl.loc id h.2.1]; exact h.1, Nat.lt_of_lt_of_le h.2.1 hl.le, h.2.2⟩
  | .fn f first caps, v, h => by
    simp only [Rep] at h ⊢
    obtain ⟨fa, ca, rfl, h1, h2⟩ := h
    exact ⟨fa, ca, rfl, Reps.later hl first _ h1, Reps.later hl caps _ h2⟩
  | .ifc t av, v, h => by
    simp only [Rep] at h ⊢
    obtain ⟨y, rfl, h1⟩ := h
    exact ⟨y, rfl, Rep.later hl av _ h1⟩
  | .bp _, _, _ => by simp [Rep]
  | .buf _ _, _, _ => by simp [Rep]
theorem Reps.later {w g n w' g' n'} (hl : Later w g n w' g' n') : ∀ (as : List AV) (vs : List Value), Reps w g n as vs → Reps w' g' n' as vs
  | [], _, h => by simpa [Reps] using h
  | a :: as, vs, h => by
    simp only [Reps] at h ⊢
    obtain ⟨v, rest, rfl, h1, h2⟩ := h
    exact ⟨v, rest, rfl, Rep.later hl a _ h1, Reps.later hl as _ h2⟩
theorem Els.later {w g n w' g' n'} (hl : Later w g n w' g' n') : ∀ (es : List AV) (b off k : Nat), Els w g n es b off k → Els w' g' n' es b off k
  | [], _, _, _, _ => by simp [Els]
  | e :: es, b, off, k, h => by
    simp only [Els] at h ⊢
    obtain ⟨⟨v, h1, h2, h3⟩, h4⟩ := h
    exact ⟨⟨v, Rep.later hl e _ h1, h2, h3.later hl⟩, Els.later hl es _ _ _ h4⟩
end

theorem Reps.nil {w g n vs} : Reps w g n [] vs ↔ vs = [] := by simp [Reps]
theorem Reps.cons {w g n a as vs} : Reps w g n (a :: as) vs ↔ ∃ v rest, vs = v :: rest ∧ Rep w g n a v ∧ Reps w g n as rest := by simp [Reps]
theorem Reps.cons' {w g n a as v vs} : Reps w g n (a :: as) (v :: vs) ↔ Rep w g n a v ∧ Reps w g n as vs := by
  simp only [Reps]
  constructor
  · rintro ⟨v', rest, h, h1, h2⟩; cases h; exact ⟨h1, h2⟩
  · rintro ⟨h1, h2⟩; exact ⟨v, vs, rfl, h1, h2⟩

theorem Reps.length {w g n} : ∀ {as : List AV} {vs : List Value}, Reps w g n as vs → vs.length = as.length
  | [], vs, h => by simp [Reps.nil] at h; simp [h]
  | a :: as, vs, h => by
    obtain ⟨v, rest, rfl, _, h2⟩ := Reps.cons.1 h
    simp [Reps.length h2]

theorem Reps.get {w g n} : ∀ {as : List AV} {vs : List Value}, Reps w g n as vs → ∀ (i : Nat) (a : AV), as[i]? = some a → ∃ v, vs[i]? = some v ∧ Rep w g n a v
  | [], vs, h, i, a, ha => by simp at ha
  | x :: as, vs, h, i, a, ha => by
    obtain ⟨v, rest, rfl, h1, h2⟩ := Reps.cons.1 h
    cases i with
    | zero => simp at ha; subst ha; exact ⟨v, by simp, h1⟩
    | succ i => simp at ha ⊢; exact Reps.get h2 i a ha

theorem Reps.of_get {w g n} : ∀ {as : List AV} {vs : List Value}, vs.length = as.length → (∀ (i : Nat) (a : AV) (v : Value), as[i]? = some a → vs[i]? = some v → Rep w g n a v) → Reps w g n as vs
  | [], vs, hl, _ => by simp at hl; simp [Reps.nil, hl]
  | x :: as, [], hl, _ => by simp at hl
  | x :: as, v :: vs, hl, h => by
    refine Reps.cons'.2 ⟨h 0 x v (by simp) (by simp), Reps.of_get (by simpa using hl) fun i a u ha hu => h (i + 1) a u (by simpa using ha) (by simpa using hu)⟩

theorem Reps.append {w g n} : ∀ {as bs : List AV} {vs us : List Value}, Reps w g n as vs → Reps w g n bs us → Reps w g n (as ++ bs) (vs ++ us)
  | [], bs, vs, us, h, h' => by simp [Reps.nil] at h; simpa [h] using h'
  | a :: as, bs, vs, us, h, h' => by
    obtain ⟨v, rest, rfl, h1, h2⟩ := Reps.cons.1 h
    exact Reps.cons'.2 ⟨h1, Reps.append h2 h'⟩

theorem Reps.take {w g n} {as : List AV} {vs : List Value} (h : Reps w g n as vs) (k : Nat) : Reps w g n (as.take k) (vs.take k) := by
  refine Reps.of_get (by simp [h.length]) fun i a v ha hv => ?_
  simp only [List.getElem?_take] at ha hv
  split at ha
  · rename_i hk
    rw [if_pos hk] at hv
    obtain ⟨u, hu, hr⟩ := h.get i a ha
    rw [hu] at hv; cases hv; exact hr
  · cases ha

theorem Reps.drop {w g n} {as : List AV} {vs : List Value} (h : Reps w g n as vs) (k : Nat) : Reps w g n (as.drop k) (vs.drop k) := by
  refine Reps.of_get (by simp [h.length]) fun i a v ha hv => ?_
  simp only [List.getElem?_drop] at ha hv
  obtain ⟨u, hu, hr⟩ := h.get _ a ha
  rw [hu] at hv; cases hv; exact hr

theorem Reps.set {w g n} {as : List AV} {vs : List Value} (h : Reps w g n as vs) (i : Nat) {a : AV} {v : Value} (hr : Rep w g n a v) : Reps w g n (as.set i a) (vs.set i v) := by
  refine Reps.of_get (by simp [h.length]) fun j b u hb hu => ?_
  simp only [List.getElem?_set] at hb hu
  split at hb
  · rename_i hij
    rw [if_pos hij] at hu
    split at hb <;> split at hu <;> simp_all
  · rename_i hij
    rw [if_neg hij] at hu
    obtain ⟨u', hu', hr'⟩ := h.get _ b hb
    rw [hu'] at hu; cases hu; exact hr'

/-- Only aggregates stand for aggregates, but for 'any' and literals. -/
def AV.sure : AV → Bool
  | .any => false
  | .lit (.agg _) => false
  | .bp _ => false
  | .buf _ _ => false
  | _ => true

theorem Rep.cells {w g n} : ∀ {av : AV} {v : Value}, av.sure = true → Rep w g n av v → Reps w g n av.cells v.cells.toList
  | .agg cs, v, _, h => by
    simp only [Rep] at h
    obtain ⟨vs, rfl, h⟩ := h
    simpa [AV.cells, Value.cells] using h
  | .lit x, v, hs, h => by
    have : v = x := by simpa [Rep] using h
    subst this
    cases v <;> simp [AV.sure] at hs <;> simp [AV.cells, Value.cells, Reps, Rep]
  | .tup cs, v, _, h => by have h' := h; simp only [Rep] at h'; obtain ⟨vs, rfl, _⟩ := h'; simpa [AV.cells, Value.cells, Reps] using h
  | .sl c es, v, _, h => by have h' := h; simp only [Rep] at h'; obtain ⟨b, l, c, rfl, _⟩ := h'; simpa [AV.cells, Value.cells, Reps] using h
  | .cp cs, v, _, h => by have h' := h; simp only [Rep] at h'; obtain ⟨b, l, c, rfl, _⟩ := h'; simpa [AV.cells, Value.cells, Reps] using h
  | .ref id off, v, _, h => by have h' := h; simp only [Rep] at h'; obtain ⟨rfl, _⟩ := h'; simpa [AV.cells, Value.cells, Reps] using h
  | .vw id off l c, v, _, h => by have h' := h; simp only [Rep] at h'; obtain ⟨rfl, _⟩ := h'; simpa [AV.cells, Value.cells, Reps] using h
  | .fn f a b, v, _, h => by have h' := h; simp only [Rep] at h'; obtain ⟨_, _, rfl, _⟩ := h'; simpa [AV.cells, Value.cells, Reps] using h
  | .ifc t x, v, _, h => by have h' := h; simp only [Rep] at h'; obtain ⟨_, rfl, _⟩ := h'; simpa [AV.cells, Value.cells, Reps] using h

theorem Rep.strip {w g n} : ∀ {av : AV} {v : Value}, Rep w g n av v → Rep w g n av.strip v
  | .sl (.own k) es, v, h => by
    simp only [Rep, AV.strip] at h ⊢
    obtain ⟨base, len, cap, rfl, h1, h2, _, h4⟩ := h
    exact ⟨base, len, cap, rfl, h1, h2, (fun h => by cases h), h4⟩
  | .sl .unk es, v, h => h
  | .sl .full es, v, h => h
  | .any, _, h => h
  | .lit _, _, h => h
  | .agg _, _, h => h
  | .tup _, _, h => h
  | .cp _, _, h => h
  | .ref _ _, _, h => h
  | .vw _ _ _ _, _, h => h
  | .fn _ _ _, _, h => h
  | .ifc _ _, _, h => h
  | .bp _, _, _ => by simp [Rep, AV.strip]
  | .buf _ _, _, _ => by simp [Rep, AV.strip]

theorem Els.get {w g n} : ∀ {es : List AV} {b off k : Nat}, Els w g n es b off k → ∀ (i : Nat) (e : AV), es[i]? = some e →
    ∃ v, Rep w g n e v ∧ v.cells.size = k ∧ Holds w g b (off + i * k) v.cells.toList
  | [], _, _, _, _, i, e, he => by simp at he
  | x :: es, b, off, k, h, i, e, he => by
    simp only [Els] at h
    obtain ⟨⟨v, h1, h2, h3⟩, h4⟩ := h
    cases i with
    | zero => simp at he; subst he; exact ⟨v, h1, h2, by simpa using h3⟩
    | succ i =>
      simp at he
      obtain ⟨v, h1, h2, h3⟩ := Els.get h4 i e he
      exact ⟨v, h1, h2, by rw [Nat.add_assoc] at h3; have : k + i * k = (i + 1) * k := by rw [Nat.add_mul, Nat.one_mul, Nat.add_comm]
                           rw [this] at h3; exact h3⟩

theorem Els.of_get {w g n} : ∀ {es : List AV} {b off k : Nat}, (∀ (i : Nat) (e : AV), es[i]? = some e →
    ∃ v, Rep w g n e v ∧ v.cells.size = k ∧ Holds w g b (off + i * k) v.cells.toList) → Els w g n es b off k
  | [], _, _, _, _ => by simp [Els]
  | x :: es, b, off, k, h => by
    simp only [Els]
    refine ⟨by simpa using h 0 x (by simp), Els.of_get fun i e he => ?_⟩
    obtain ⟨v, h1, h2, h3⟩ := h (i + 1) e (by simpa using he)
    refine ⟨v, h1, h2, ?_⟩
    have : off + (i + 1) * k = off + k + i * k := by rw [Nat.add_mul, Nat.one_mul]; omega
    rwa [this] at h3

end Go.Abs

namespace Go.Abs
open Go Go.RowKit

inductive AObj where
  | cells (l : List AV)
  | gone
  deriving Inhabited

/-- The program, and what is known of its package-level variables. -/
structure Env where
  P : Program
  gl : Nat → Option (List AV)

def SpareOk (w : World) (g : Gh) (n : Nat) (s : Slot) : AV → Value → Prop
  | .sl (.own k) es, .slice (some a) len cap => 0 < k ∧ Els w g n es a.block a.off k ∧ ∀ q, len * k ≤ q → q < cap * k →
      g.own a.block (a.off + q) = .sp s ∧ (∃ u, w.cell? ⟨a.block, a.off + q, none⟩ = some u) ∧ w.frozen? ⟨a.block, a.off + q, none⟩ = false
  | _, _ => True

theorem SpareOk.strip {w g n s av v} : SpareOk w g n s (AV.strip av) v := by
  cases av <;> simp only [AV.strip, SpareOk]
  rename_i c es
  cases c <;> simp

def GOk (w : World) (g : Gh) : Prop := ∀ b off, g.own b off ≠ .none → b < w.heap.size

structure CellsOk (w : World) (g : Gh) (n : Nat) (id : Nat) (l : List AV) (vs : Array Value) (e : TypeId) : Prop where
  blk : w.heap[g.loc id]? = some (.cells vs e (0, 0))
  own : ∀ off, g.own (g.loc id) off = .obj id
  size : vs.size = l.length
  rep : ∀ (j : Nat) (av : AV), l[j]? = some av → ∃ v, vs[j]? = some v ∧ Rep w g n av v ∧ SpareOk w g n (.cell id j) av v
  bp : ∀ e', l[0]? = some (.bp e') → e' = e ∧ (vs[0]? = some (.pointer none) ∨ vs[0]? = some (.pointer (some ⟨g.loc id, 0, none⟩)))
  buf : ∀ j te b, l[j]? = some (.buf te b) → ∃ v, vs[j]? = some v ∧ w.ownsRowF 0 te 1 v b.length (Lib.byteCells b) ∧ ∀ k, v.ownBlock = some k → ∀ off, g.own k off = .sp (.cell id j)

def HeapOk (w : World) (g : Gh) (h : List AObj) : Prop :=
  ∀ (id : Nat) (l : List AV), h[id]? = some (.cells l) → ∃ vs e, CellsOk w g h.length id l vs e

def look : List (Nat × AV) → Nat → AV
  | [], _ => .any
  | (i, v) :: l, j => if i = j then v else look l j

def TmpsOk (w : World) (g : Gh) (n : Nat) (tmps : List (Nat × AV)) (ts : Array Value) : Prop :=
  ∀ i, Rep w g n (look tmps i) (ts.getD i undef) ∧ SpareOk w g n (.tmp i) (look tmps i) (ts.getD i undef)

def GlOk (E : Env) (w : World) (g : Gh) : Prop :=
  ∀ i cs, E.gl i = some cs → ∃ vs, Holds w g i 0 vs ∧ Reps w g 0 cs vs ∧ (∃ e fr, w.heap[i]? = some (.cells vs.toArray e fr)) ∧ ∀ off, g.own i off = .com

/-- From a world w0 on: what was not the call's own is as it was. -/
structure Stable (w0 : World) (g0 : Gh) (n0 : Nat) (w : World) (g : Gh) : Prop where
  size : w0.heap.size ≤ w.heap.size
  os : w.os = w0.os
  output : w.output = w0.output
  tape : w.tape = w0.tape
  blk : ∀ b, b < w0.heap.size → (∀ off, g0.own b off = .none ∨ g0.own b off = .com) → w.heap[b]? = w0.heap[b]?
  cel : ∀ b c e fr, w0.heap[b]? = some (.cells c e fr) → (∃ off, g0.own b off = .none ∨ g0.own b off = .com) → ∃ c' fr', w.heap[b]? = some (.cells c' e fr') ∧ c'.size = c.size ∧
    ∀ off, (g0.own b off = .none ∨ g0.own b off = .com) → fr' = fr ∧ c'[off]? = c[off]?
  own : ∀ b off, b < w0.heap.size → (g0.own b off = .none → g.own b off = .none) ∧ (g0.own b off = .com → g.own b off = .com)
  loc : ∀ id, id < n0 → g.loc id = g0.loc id

theorem Stable.refl (w : World) (g : Gh) (n : Nat) : Stable w g n w g :=
  ⟨Nat.le_refl _, rfl, rfl, rfl, fun _ _ _ => rfl, fun _ c _ fr h _ => ⟨c, fr, h, rfl, fun _ _ => ⟨rfl, rfl⟩⟩, fun _ _ _ => ⟨id, id⟩, fun _ _ => rfl⟩

structure ASt where
  tmps : List (Nat × AV)
  heap : List AObj

def ASt.put (σ : ASt) (i : Nat) (v : AV) : ASt := { σ with tmps := (i, v) :: σ.tmps }
def ASt.putO (σ : ASt) (d : Option Nat) (v : AV) : ASt := match d with | some i => σ.put i v | none => σ

/-- An activation: nt temporaries; begun in (w0, g0) with n0 objects. -/
structure Base where
  nt : Nat
  w0 : World
  g0 : Gh
  n0 : Nat

structure RA (E : Env) (B : Base) (σ : ASt) (a : Act) (w : World) (g : Gh) : Prop where
  nt : a.tmps.size = B.nt
  gok : GOk w g
  gl : GlOk E w g
  tmps : TmpsOk w g σ.heap.length σ.tmps a.tmps
  heap : HeapOk w g σ.heap
  st : Stable B.w0 B.g0 B.n0 w g
  n0 : B.n0 ≤ σ.heap.length
  defers : a.defers = []

inductive AEx where
  | normal | exit (id : Nat) | ret | panic (v : AV)

def ExRel (w : World) (g : Gh) (n : Nat) : AEx → Exit → Prop
  | .normal, e => e = .normal
  | .exit id, e => e = .exit id
  | .ret, e => e = .ret
  | .panic av, e => ∃ v, e = .panic [{ v, recovered := false }] ∧ Rep w g n av v

/-- The concrete post of an abstract one. -/
def QC (E : Env) (B : Base) (Q : AEx → ASt → Prop) (e : Exit) (a : Act) (w : World) : Prop :=
  ∃ ae σ g, Q ae σ ∧ ExRel w g σ.heap.length ae e ∧ RA E B σ a w g

def KC (E : Env) (B : Base) (K : ASt → Prop) (a : Act) (w : World) : Prop := ∃ σ g, K σ ∧ RA E B σ a w g

def AWp (E : Env) (nt : Nat) (c : Code) (σ : ASt) (Q : AEx → ASt → Prop) : Prop :=
  ∀ (B : Base) a w g, B.nt = nt → RA E B σ a w g → c.wp E.P (QC E B Q) a w

inductive ARes where
  | ret (v : AV) | panic (v : AV)

def EndRel (w : World) (g : Gh) (n : Nat) : ARes → Ending → Prop
  | .ret av, e => ∃ v, e = .returned v ∧ Rep w g n av v
  | .panic av, e => ∃ v, e = .panicked [{ v, recovered := false }] ∧ Rep w g n av v

def argsOk (w : World) (g : Gh) (n : Nat) (args : List AV) (vs : Array Value) : Prop :=
  vs.size = args.length ∧ ∀ (i : Nat) (av : AV), args[i]? = some av → ∃ v, vs[i]? = some v ∧ Rep w g n av v ∧ SpareOk w g n (.tmp i) av v

/-- What comes of calling a function: it is entered and ends so; or it is an extern row that yields a value. -/
def Invokes (P : Program) (f : FuncId) (vs : Array Value) (w : World) (R : Ending → World → Prop) : Prop :=
  ((callFunc f vs).run P w = .ok (.enter f vs) w ∧ Calls P f vs w R) ∨ ∃ v w', (callFunc f vs).run P w = .ok (.value v) w' ∧ R (.returned v) w'

theorem Invokes.mono {P f vs w} {R R' : Ending → World → Prop} (h : Invokes P f vs w R) (hr : ∀ e w', R e w' → R' e w') : Invokes P f vs w R' :=
  h.imp (fun ⟨h1, h2⟩ => ⟨h1, h2.mono hr⟩) (fun ⟨v, w', h1, h2⟩ => ⟨v, w', h1, hr _ _ h2⟩)

/-- The contract of a function: called with these, it ends so. -/
def Ev (E : Env) (f : FuncId) (args : List AV) (h : List AObj) (Q : ARes → List AObj → Prop) : Prop :=
  ∀ w g vs, GOk w g → GlOk E w g → HeapOk w g h → argsOk w g h.length args vs →
    Invokes E.P f vs w (fun e w' => ∃ r h' g', Q r h' ∧ EndRel w' g' h'.length r e ∧ GOk w' g' ∧ GlOk E w' g' ∧ HeapOk w' g' h' ∧
      Stable w g h.length w' g' ∧ h.length ≤ h'.length)

theorem Ev.mono {E f args h} {Q Q' : ARes → List AObj → Prop} (hh : Ev E f args h Q) (hq : ∀ r h', Q r h' → Q' r h') : Ev E f args h Q' :=
  fun w g vs h1 h2 h3 h4 => (hh w g vs h1 h2 h3 h4).mono fun _ _ ⟨r, h', g', q, rest⟩ => ⟨r, h', g', hq _ _ q, rest⟩

/-- It returns just this, and leaves the objects as they were. -/
def EvR (E : Env) (f : FuncId) (args : List AV) (h : List AObj) (v : AV) : Prop := Ev E f args h fun r h' => r = .ret v ∧ h' = h

/-! ### Small facts -/

theorem Stable.later {w0 g0 n0 w g n} (h : Stable w0 g0 n0 w g) (hg : GOk w0 g0) (hn : n0 ≤ n) : Later w0 g0 n0 w g n where
  le := hn
  loc := h.loc
  blk := fun b o hb ho => by
    have hlt : b < w0.heap.size := by
      rcases Nat.lt_or_ge b w0.heap.size with h | h
      · exact h
      · simp [Array.getElem?_eq_none h] at hb
    exact ⟨by rw [h.blk b hlt (fun off => .inr (ho off))]; exact hb, fun off => (h.own b off hlt).2 (ho off)⟩
  com := fun b off u hc ho => by
    have hb : b < w0.heap.size := hg b off (by rw [ho]; simp)
    refine ⟨?_, ((h.own b off hb).2 ho)⟩
    unfold World.cell? at hc ⊢
    simp only at hc ⊢
    split at hc
    · rename_i c e fr heq
      obtain ⟨c', fr', h1, _, h3⟩ := h.cel b c e fr heq ⟨off, .inr ho⟩
      simp only [h1]
      simp at hc ⊢
      rw [(h3 off (.inr ho)).2]
      exact hc
    · cases hc

theorem look_cons_same {l : List (Nat × AV)} {i : Nat} {v : AV} : look ((i, v) :: l) i = v := by simp [look]
theorem look_cons_ne {l : List (Nat × AV)} {i j : Nat} {v : AV} (h : i ≠ j) : look ((i, v) :: l) j = look l j := by simp [look, h]

theorem getD_put {a : Act} {d : Nat} {v : Value} (h : d < a.tmps.size) (j : Nat) : (a.put (some d) v).tmps.getD j undef = if d = j then v else a.tmps.getD j undef := by
  simp only [Act.put, Array.getD_eq_getD_getElem?, Array.getElem?_setIfInBounds]
  split
  · rename_i hij; subst hij; simp [h]
  · rfl

theorem SpareOk.later {w g n w' g' n' s av v} (hl : Later w g n w' g' n')
    (hsp : ∀ b off u, g.own b off = .sp s → w.cell? ⟨b, off, none⟩ = some u → w.frozen? ⟨b, off, none⟩ = false →
      g'.own b off = .sp s ∧ (∃ u', w'.cell? ⟨b, off, none⟩ = some u') ∧ w'.frozen? ⟨b, off, none⟩ = false)
    (h : SpareOk w g n s av v) : SpareOk w' g' n' s av v := by
  cases av <;> try exact trivial
  rename_i c es
  cases c <;> try exact trivial
  rename_i k
  cases v <;> try exact trivial
  rename_i a len cap
  cases a <;> try exact trivial
  rename_i a
  simp only [SpareOk] at h ⊢
  obtain ⟨h0, h1, h2⟩ := h
  refine ⟨h0, Els.later hl _ _ _ _ h1, fun q hq1 hq2 => ?_⟩
  obtain ⟨h3, ⟨u, h4⟩, h5⟩ := h2 q hq1 hq2
  exact hsp _ _ _ h3 h4 h5

/-- Only the temporary d has turned; its value holds no room. -/
theorem RA.put {E B σ a w g} (h : RA E B σ a w g) {d : Nat} {av : AV} {v : Value} (hd : d < B.nt) (hr : Rep w g σ.heap.length av v) (hs : SpareOk w g σ.heap.length (.tmp d) av v) :
    RA E B (σ.put d av) (a.put (some d) v) w g where
  nt := by simp [Act.put]; exact h.nt
  gok := h.gok
  gl := h.gl
  heap := h.heap
  st := h.st
  n0 := h.n0
  defers := by simp [Act.put]; exact h.defers
  tmps := fun i => by
    rw [getD_put (by rw [h.nt]; exact hd)]
    simp only [ASt.put]
    by_cases hi : d = i
    · subst hi; rw [look_cons_same, if_pos rfl]; exact ⟨hr, hs⟩
    · rw [look_cons_ne hi, if_neg hi]; exact h.tmps i

theorem RA.putO {E B σ a w g} (h : RA E B σ a w g) {d : Option Nat} {av : AV} {v : Value} (hd : ∀ i, d = some i → i < B.nt) (hr : Rep w g σ.heap.length av v) (hs : ∀ s, SpareOk w g σ.heap.length s av v) :
    RA E B (σ.putO d av) (a.put d v) w g := by
  cases d with
  | none => exact h
  | some i => exact RA.put h (hd i rfl) hr (hs _)

end Go.Abs

namespace Go.Abs
open Go Go.RowKit

inductive AOp where
  | move (x : Operand)
  | pick (c a b : Operand)
  | nilCheck (x : Operand)
  | bin (op : BinOp) (x y : Operand)
  | eqB (neg : Bool) (x y : Operand)
  | eqN (neg : Bool) (kind : Nat) (x y : Operand)
  | eqS (neg : Bool) (ks : List Nat) (x y : Operand)
  | un (op : UnOp) (x : Operand)
  | conv (k : IntKind) (x : Operand)
  | convS (x : Operand)
  | toStr (x : Operand)
  | slice (k : Nat) (x : Operand) (lo hi : Option Operand)
  | sliceS (x : Operand) (lo hi : Option Operand)
  | fieldAddr (off : Nat) (x : Operand)
  | field (off : Nat) (n : Option Nat) (x : Operand)
  | indexAddr (k : Nat) (x i : Operand)
  | indexAddrArr (len k : Nat) (x i : Operand)
  | indexS (x i : Operand)
  | indexArr (len k : Nat) (n : Option Nat) (x i : Operand)
  | load (n : Option Nat) (x : Operand)
  | extract (x : Operand) (i : Nat)
  | len (str : Bool) (x : Operand)
  | mkIface (t : TypeId) (x : Operand)
  | mkFunc (f : Fn) (first caps : List Operand)
  | build (zero : List AV) (parts : List (Nat × Nat × Operand))
  | minmax (mx : Bool) (x y : Operand)
  -- those that act
  | take (t : Tmp)
  | box (x : Operand)
  | alloc (zero : List AV)
  | store (n : Nat) (x y : Operand)
  | append (k bytes : Nat) (zero : List AV) (s x : Operand)
  | toBytes (x : Operand)
  | buildSlice (obj : Bool) (k : Nat) (zero : List AV) (len : Nat) (parts : List (Nat × Operand))
  | makeSlice (obj : Bool) (k bytes : Nat) (zero : List AV) (len cap : Operand)
  | call (f : Operand) (args : List (Operand × Bool))
  | panic (x : Operand)
  | conv8 (x : Operand)
  | boxB (e te : TypeId) (x : Operand)

def ofCell : Value → AV
  | .slice none 0 0 => .sl .full []
  | v => .lit v

def ofConst : Value → AV
  | .slice none 0 0 => .sl .full []
  | .agg cs => .agg (cs.toList.map ofCell)
  | v => .lit v

/-- What gc's representation of a type is: an aggregate, of how many cells. -/
def aggN (P : Program) (t : TypeId) : Option (Option Nat) :=
  match P.underlying t, P.info? t with
  | some (.struct _), some i | some (.array _ _), some i => some (some i.size)
  | some _, some _ => some none
  | _, _ => none

def isBool (P : Program) (t : TypeId) : Bool := match P.underlying t with | some .bool => true | _ => false
def isString (P : Program) (t : TypeId) : Bool := match P.underlying t with | some .string => true | _ => false
def nilKind (P : Program) (t : TypeId) (c : Bool) : Option Nat := match P.underlying t with
  | some (.pointer _) => some 0
  | some (.func _ _ _) => some 1
  | some (.interface _) => if c then some 2 else none
  | some (.map _ _) => some 3
  | _ => none
/-- A struct of booleans (0), integers (1), strings (2) alone: of which, in order. -/
def eqKind (P : Program) (t : TypeId) : Option Nat := match P.underlying t, P.info? t with
  | some .bool, some _ => some 0
  | some (.int _), some _ => some 1
  | some .string, some _ => some 2
  | _, _ => none
def eqKindsL (P : Program) : Nat → List Field → Option (List Nat)
  | _, [] => some []
  | i, f :: fs => if f.name ≠ "_" ∧ f.offset = i then (match eqKind P f.type, eqKindsL P (i + 1) fs with | some k, some ks => some (k :: ks) | _, _ => none) else none
def eqKinds (P : Program) (t : TypeId) : Option (List Nat) := match P.underlying t with
  | some (.struct fs) => if P.stoodInHeld t = false ∧ P.eqGuardType P.depth t = false then eqKindsL P 0 fs.toList else none
  | _ => none
def isCon : Operand → Bool | .const _ => true | _ => false
def isIntT (P : Program) (t : TypeId) : Bool := match P.underlying t with | some (.int _) => true | _ => false

def placed (place : Nat → Option (Nat × Nat)) : List (Nat × Operand) → Option (List (Nat × Nat × Operand))
  | [] => some []
  | (i, x) :: rest => match place i, placed place rest with
    | some (off, n), some l => some ((off, n, x) :: l)
    | _, _ => none

def cop (P : Program) : Op → Option AOp
  | .move x | .assign x => some (.move x)
  | .pick c a b => some (.pick c a b)
  | .nilCheck x => some (.nilCheck x)
  | .binOp op t x y _ =>
    if isBool P t then (match op with | .eql => some (.eqB false x y) | .neq => some (.eqB true x y) | _ => none)
    else if isIntT P t || isString P t then some (.bin op x y)
    else match nilKind P t (isCon x || isCon y) with
      | some kind => (match op with | .eql => some (.eqN false kind x y) | .neq => some (.eqN true kind x y) | _ => none)
      | none => (match eqKinds P t with
        | some ks => (match op with | .eql => some (.eqS false ks x y) | .neq => some (.eqS true ks x y) | _ => none)
        | none => none)
  | .unOp op _ x => some (.un op x)
  | .convert src dst x => match P.underlying src, P.underlying dst with
    | some (.int _), some (.int k) => some (.conv k x)
    | some .string, some .string => some (.convS x)
    | some (.slice e), some .string => (match P.underlying e with | some (.int .u8) => some (.toStr x) | _ => none)
    | some .string, some (.slice e) => (match P.underlying e with | some (.int .u8) => some (.toBytes x) | _ => none)
    | some (.slice _), some (.slice e) => (match P.underlying e with | some (.int .u8) => if src = dst then some (.conv8 x) else none | _ => none)
    | _, _ => none
  | .slice t x lo hi none => match P.underlying t with
    | some .string => some (.sliceS x lo hi)
    | some (.slice e) => (match P.info? e with | some inf => some (.slice inf.size x lo hi) | none => none)
    | _ => none
  | .fieldAddr s x f => match P.underlying s with
    | some (.struct fields) => (match fields[f]? with
      | some fd => (match P.info? fd.type with | some i => if i.size = 0 then none else some (.fieldAddr fd.offset x) | none => none)
      | none => none)
    | _ => none
  | .field s x f => match P.underlying s with
    | some (.struct fields) => (match fields[f]? with
      | some fd => (match aggN P fd.type with | some n => some (.field fd.offset n x) | none => none)
      | none => none)
    | _ => none
  | .indexAddr t x i => match P.underlying t with
    | some (.slice e) => (match P.info? e with | some inf => some (.indexAddr inf.size x i) | none => none)
    | some (.array len e) => (match P.info? e with | some inf => some (.indexAddrArr len inf.size x i) | none => none)
    | _ => none
  | .index t x i => match P.underlying t with
    | some .string => some (.indexS x i)
    | some (.array len e) => (match P.info? e, aggN P e with | some inf, some n => some (.indexArr len inf.size n x i) | _, _ => none)
    | _ => none
  | .load t x => match aggN P t with | some n => some (.load n x) | none => none
  | .store t x y => match P.info? t with | some i => some (.store i.size x y) | none => none
  | .extract x i => some (.extract x i)
  | .makeInterface t x => match P.underlying t with | some (.interface _) => none | some _ => some (.mkIface t x) | none => none
  | .makeFunc f first caps => some (.mkFunc f first.toList caps.toList)
  | .build t parts => match P.info? t, P.underlying t with
    | some it, some (.array _ e) => (match it.zero, P.info? e with
      | some z, some ie => (match placed (fun i => some (i * ie.size, ie.size)) parts.toList with
        | some l => some (.build (z.cells.toList.map ofCell) l)
        | none => none)
      | _, _ => none)
    | some it, some (.struct fields) => (match it.zero, fields.toList.mapM (fun f => (P.info? f.type).map fun i => (f.offset, i.size)) with
      | some z, some places => (match placed (places.toArray[·]?) parts.toList with
        | some l => some (.build (z.cells.toList.map ofCell) l)
        | none => none)
      | _, _ => none)
    | _, _ => none
  | .box _ x => some (.box x)
  | .alloc t => match P.info? t with
    | some inf => (match inf.zero with | some z => some (.alloc (z.cells.toList.map ofCell)) | none => none)
    | none => none
  | .buildSlice t len parts => match P.underlying t with
    | some (.slice e) => (match P.info? e with
      | some inf => (match inf.zero with | some z => some (.buildSlice false inf.size (z.cells.toList.map ofCell) len parts.toList) | none => none)
      | none => none)
    | _ => none
  | .makeSlice t l c => match P.underlying t with
    | some (.slice e) => (match P.info? e with
      | some inf => (match inf.zero with | some z => some (.makeSlice false inf.size inf.bytes (z.cells.toList.map ofCell) l c) | none => none)
      | none => none)
    | _ => none
  | .panic x => some (.panic x)
  | .call { callee := .builtin .len, args, argTypes } => match args[0]?, argTypes[0]? with
    | some x, some t => (match P.underlying t with | some .string => some (.len true x) | some (.slice _) => some (.len false x) | _ => none)
    | _, _ => none
  | .call { callee := .builtin .append, args, argTypes } => match args.toList, argTypes.toList with
    | [s, x], [t, tx] => (match P.underlying t with
      | some (.slice e) => (match P.info? e, P.underlying tx with
        | some inf, some (.slice _) | some inf, some .string => (match inf.zero with | some z => some (.append inf.size inf.bytes (z.cells.toList.map ofCell) s x) | none => none)
        | _, _ => none)
      | _ => none)
    | _, _ => none
  | .call { callee := .builtin .max, args, .. } => (match args.toList with | [x, y] => some (.minmax true x y) | _ => none)
  | .call { callee := .builtin .min, args, .. } => (match args.toList with | [x, y] => some (.minmax false x y) | _ => none)
  | .call { callee := .value f, args, .. } => some (.call f (args.toList.map fun x => (x, false)))
  | _ => none

def ibits (op : BinOp) (k : IntKind) (x y : Int) : Int :=
  let a := BitVec.ofInt k.bits x
  let b := BitVec.ofInt k.bits y
  match op with
  | .and => k.wrap (a &&& b).toNat
  | .or => k.wrap (a ||| b).toNat
  | .xor => k.wrap (a ^^^ b).toNat
  | _ => k.wrap (a &&& ~~~b).toNat

def sless (a b : ByteArray) : Bool := Op.bytesLess a.toList b.toList

def binW (op : BinOp) (u v : Value) (K : Value → Prop) : Prop :=
  match u, v with
  | .int k a, .int k' b => match op with
    | .shl => 0 ≤ b ∧ K (.int k (k.wrap (a * 2 ^ (min b.toNat k.bits))))
    | .shr => 0 ≤ b ∧ K (.int k (a.fdiv (2 ^ (min b.toNat k.bits))))
    | .add => k = k' ∧ K (.int k (k.wrap (a + b)))
    | .sub => k = k' ∧ K (.int k (k.wrap (a - b)))
    | .mul => k = k' ∧ K (.int k (k.wrap (a * b)))
    | .quo => k = k' ∧ b ≠ 0 ∧ K (.int k (k.wrap (a.tdiv b)))
    | .rem => k = k' ∧ b ≠ 0 ∧ K (.int k (a.tmod b))
    | .and => k = k' ∧ K (.int k (ibits .and k a b))
    | .or => k = k' ∧ K (.int k (ibits .or k a b))
    | .xor => k = k' ∧ K (.int k (ibits .xor k a b))
    | .andNot => k = k' ∧ K (.int k (ibits .andNot k a b))
    | .eql => k = k' ∧ K (.bool (decide (a = b)))
    | .neq => k = k' ∧ K (.bool (!decide (a = b)))
    | .lss => k = k' ∧ K (.bool (decide (a < b)))
    | .leq => k = k' ∧ K (.bool (decide (a ≤ b)))
    | .gtr => k = k' ∧ K (.bool (decide (b < a)))
    | .geq => k = k' ∧ K (.bool (decide (b ≤ a)))
  | .string a, .string b => match op with
    | .add => a.size + b.size < 2 ^ 63 ∧ K (.string (a ++ b))
    | .eql => K (.bool (decide (a = b)))
    | .neq => K (.bool (!decide (a = b)))
    | .lss => K (.bool (sless a b))
    | .leq => K (.bool (sless a b || decide (a = b)))
    | .gtr => K (.bool (!(sless a b || decide (a = b))))
    | .geq => K (.bool (!sless a b))
    | _ => False
  | _, _ => False

/-- What a nil of some kind is, and what surely is none. -/
def nilness : Nat → AV → Option Bool
  | 0, .lit (.pointer none) => some true
  | 0, .ref _ _ | 0, .cp _ => some false
  | 1, .lit .nilFunc => some true
  | 1, .fn _ _ _ => some false
  | 2, .lit .nilIface => some true
  | 2, .ifc _ _ => some false
  | 3, .lit (.map none) => some true
  | _, _ => none

/-- Whether two records of literals are alike. -/
def eqCells : List Nat → List AV → List AV → Option Bool
  | [], [], [] => some true
  | 0 :: ks, .lit (.bool a) :: as, .lit (.bool b) :: bs => (match eqCells ks as bs with | some r => some (decide (a = b) && r) | none => none)
  | 1 :: ks, .lit (.int k a) :: as, .lit (.int k' b) :: bs => if k = k' then (match eqCells ks as bs with | some r => some (decide (a = b) && r) | none => none) else none
  | 2 :: ks, .lit (.string a) :: as, .lit (.string b) :: bs => (match eqCells ks as bs with | some r => some (decide (a = b) && r) | none => none)
  | _, _, _ => none

def bitesOf : List AV → Option (List UInt8)
  | [] => some []
  | .lit (.int .u8 n) :: l => (bitesOf l).map (UInt8.ofNat n.toNat :: ·)
  | _ => none

def setMany (cs : List AV) (off : Nat) : List AV → List AV
  | [] => cs
  | v :: l => setMany (cs.set off v) (off + 1) l

def fillA (ev : Operand → AV) (cs : List AV) : List (Nat × Nat × Operand) → Option (List AV)
  | [] => some cs
  | (off, n, x) :: rest =>
    if (ev x).sure = true ∧ (ev x).cells.length = n ∧ off + n ≤ cs.length then fillA ev (setMany cs off (ev x).cells) rest else none

def vop (h : List AObj) (ev : Operand → AV) : AOp → (AV → Prop) → Prop
  | .move x, K => K (ev x)
  | .pick c a b, K => (match ev c with | .lit (.bool t) => K (if t then ev a else ev b) | _ => False)
  | .nilCheck x, K => (match ev x with
    | .ref id off => K (.ref id off)
    | .cp cs => K (.cp cs)
    | .fn (.func f) a b => K (.fn (.func f) a b)
    | .ifc t v => K (.ifc t v)
    | _ => False)
  | .bin op x y, K => (match ev x, ev y with | .lit u, .lit v => binW op u v (fun r => K (.lit r)) | _, _ => False)
  | .eqB neg x y, K => (match ev x, ev y with | .lit (.bool a), .lit (.bool b) => K (.lit (.bool (xor neg (decide (a = b))))) | _, _ => False)
  | .eqN neg kind x y, K => (match nilness kind (ev x), nilness kind (ev y) with
    | some true, some b => K (.lit (.bool (xor neg b)))
    | some false, some true => K (.lit (.bool neg))
    | _, _ => False)
  | .eqS neg ks x y, K => (match ev x, ev y with
    | .agg cs, .agg ds => (match eqCells ks cs ds with | some b => K (.lit (.bool (xor neg b))) | none => False)
    | _, _ => False)
  | .un op x, K => (match op, ev x with
    | .not, .lit (.bool b) => K (.lit (.bool (!b)))
    | .neg, .lit (.int k n) => K (.lit (.int k (k.wrap (0 - n))))
    | .xor, .lit (.int k n) => K (.lit (.int k (ibits .xor k (if k.signed then -1 else k.max) n)))
    | _, _ => False)
  | .conv k x, K => (match ev x with | .lit (.int _ n) => K (.lit (.int k (k.wrap n))) | _ => False)
  | .convS x, K => (match ev x with | .lit (.string s) => K (.lit (.string s)) | _ => False)
  | .toStr x, K => (match ev x with | .sl _ es => (match bitesOf es with | some l => K (.lit (.string ⟨l.toArray⟩)) | none => False) | _ => False)
  | .slice k x lo hi, K => (match ev x with
    | .sl _ es => ∃ l u : Int, (match lo with | none => l = 0 | some y => ∃ k, ev y = .lit (.int k l)) ∧ (match hi with | none => u = es.length | some y => ∃ k, ev y = .lit (.int k u)) ∧
        0 ≤ l ∧ l ≤ u ∧ u ≤ es.length ∧ (l = 0 ∨ ∀ e, e ∈ es → e.sure = true ∧ e.cells.length = k) ∧ K (.sl .unk ((es.take u.toNat).drop l.toNat))
    | _ => False)
  | .sliceS x lo hi, K => (match ev x with
    | .lit (.string s) => ∃ l u : Int, (match lo with | none => l = 0 | some y => ∃ k, ev y = .lit (.int k l)) ∧ (match hi with | none => u = s.size | some y => ∃ k, ev y = .lit (.int k u)) ∧
        0 ≤ l ∧ l ≤ u ∧ u ≤ s.size ∧ K (.lit (.string (s.extract l.toNat u.toNat)))
    | _ => False)
  | .fieldAddr off x, K => (match ev x with
    | .ref id o => K (.ref id (o + off))
    | .cp cs => K (.cp (cs.drop off))
    | _ => False)
  | .field off n x, K => (match ev x with
    | .agg cs => (match n with
      | some n => K (.agg ((cs.drop off).take n))
      | none => (match cs[off]? with | some v => K v.strip | none => False))
    | _ => False)
  | .indexAddr k x i, K => (match ev x, ev i with
    | .sl _ es, .lit (.int _ j) => (0 ≤ j ∧ j < es.length) ∧ ∀ e, es[j.toNat]? = some e → e.sure = true ∧ e.cells.length = k ∧ K (.cp e.cells)
    | .vw id off len _, .lit (.int _ j) => (0 ≤ j ∧ j < len) ∧ K (.ref id (off + j.toNat * k))
    | _, _ => False)
  | .indexAddrArr len k x i, K => (match ev x, ev i with
    | .ref id o, .lit (.int _ j) => (0 ≤ j ∧ j < len) ∧ K (.ref id (o + j.toNat * k))
    | .cp cs, .lit (.int _ j) => (0 ≤ j ∧ j < len) ∧ K (.cp (cs.drop (j.toNat * k)))
    | _, _ => False)
  | .indexS x i, K => (match ev x, ev i with
    | .lit (.string s), .lit (.int _ j) => (0 ≤ j ∧ j < s.size) ∧ ∀ c, s[j.toNat]? = some c → K (.lit (.int .u8 c.toNat))
    | _, _ => False)
  | .indexArr len k n x i, K => (match ev x, ev i with
    | .agg cs, .lit (.int _ j) => (0 ≤ j ∧ j < len) ∧ (match n with
      | some n => K (.agg ((cs.drop (j.toNat * k)).take n))
      | none => ∀ e, cs[j.toNat * k]? = some e → K e.strip) ∧ len * k ≤ cs.length ∧ 0 < k
    | _, _ => False)
  | .load n x, K => (match ev x with
    | .ref id off => (match h[id]? with
      | some (.cells l) => (match n with
        | none => (match l[off]? with | some v => K v.strip | none => False)
        | some n => off + n ≤ l.length ∧ K (.agg (((l.drop off).take n).map AV.strip)))
      | _ => False)
    | .cp cs => (match n with
      | none => (match cs[0]? with | some v => K v.strip | none => False)
      | some n => n ≤ cs.length ∧ K (.agg (cs.take n)))
    | _ => False)
  | .extract x i, K => (match ev x with | .tup vs => (match vs[i]? with | some v => K v.strip | none => False) | _ => False)
  | .len true x, K => (match ev x with
    | .lit (.string s) => K (.lit (.int .i64 s.size))
    | _ => False)
  | .len false x, K => (match ev x with
    | .sl _ es => K (.lit (.int .i64 es.length))
    | .vw _ _ len _ => K (.lit (.int .i64 len))
    | _ => False)
  | .mkIface t x, K => K (.ifc t (ev x))
  | .mkFunc f first caps, K => K (.fn f (first.map ev) (caps.map ev))
  | .build zero parts, K => (match fillA ev zero parts with | some cs => K (.agg cs) | none => False)
  | .minmax mx x y, K => (match ev x, ev y with | .lit (.int k a), .lit (.int _ b) => K (.lit (.int k (if mx then (if b > a then b else a) else (if b < a then b else a)))) | _, _ => False)
  | _, _ => False

end Go.Abs
