/- The relation between abstract and concrete states; contracts. -/
import Derived.Test.YtenhfnadhmjloaaDoorAbsA
set_option linter.all false
namespace Go.Abs
open Go Go.RowKit

inductive AObj where
  | cells (l : List AV)
  | gone
  deriving Inhabited

/-- The program, and what is known of its package-level variables. -/
structure Env where
  P : Program
  gl : Nat → Option (List AV)

def SpareOk (w : World) (g : Gh) (n : Nat) (s : Slot) : AV → Value → Prop
  | .sl (.own k) es, .slice (some a) len cap => 0 < k ∧ Els w g n es a.block a.off k ∧ ∀ q, len * k ≤ q → q < cap * k →
      g.own a.block (a.off + q) = .sp s ∧ (∃ u, w.cell? ⟨a.block, a.off + q, none⟩ = some u) ∧ w.frozen? ⟨a.block, a.off + q, none⟩ = false
  | _, _ => True

theorem SpareOk.strip {w g n s av v} : SpareOk w g n s (AV.strip av) v := by
  cases av <;> simp only [AV.strip, SpareOk]
  rename_i c es
  cases c <;> simp

def GOk (w : World) (g : Gh) : Prop := ∀ b off, g.own b off ≠ .none → b < w.heap.size

structure CellsOk (w : World) (g : Gh) (n : Nat) (id : Nat) (l : List AV) (vs : Array Value) (e : TypeId) : Prop where
  blk : w.heap[g.loc id]? = some (.cells vs e (0, 0))
  own : ∀ off, g.own (g.loc id) off = .obj id
  size : vs.size = l.length
  rep : ∀ (j : Nat) (av : AV), l[j]? = some av → ∃ v, vs[j]? = some v ∧ Rep w g n av v ∧ SpareOk w g n (.cell id j) av v

def HeapOk (w : World) (g : Gh) (h : List AObj) : Prop :=
  ∀ (id : Nat) (l : List AV), h[id]? = some (.cells l) → ∃ vs e, CellsOk w g h.length id l vs e

def look : List (Nat × AV) → Nat → AV
  | [], _ => .any
  | (i, v) :: l, j => if i = j then v else look l j

def TmpsOk (w : World) (g : Gh) (n : Nat) (tmps : List (Nat × AV)) (ts : Array Value) : Prop :=
  ∀ i, Rep w g n (look tmps i) (ts.getD i undef) ∧ SpareOk w g n (.tmp i) (look tmps i) (ts.getD i undef)

def GlOk (E : Env) (w : World) (g : Gh) : Prop :=
  ∀ i cs, E.gl i = some cs → ∃ vs, Holds w g i 0 vs ∧ Reps w g 0 cs vs

/-- From a world w0 on: what was not the call's own is as it was. -/
structure Stable (w0 : World) (g0 : Gh) (n0 : Nat) (w : World) (g : Gh) : Prop where
  size : w0.heap.size ≤ w.heap.size
  os : w.os = w0.os
  output : w.output = w0.output
  tape : w.tape = w0.tape
  blk : ∀ b, b < w0.heap.size → (∀ off, g0.own b off = .none ∨ g0.own b off = .com) → w.heap[b]? = w0.heap[b]?
  cel : ∀ b c e fr, w0.heap[b]? = some (.cells c e fr) → ∃ c' fr', w.heap[b]? = some (.cells c' e fr') ∧ c'.size = c.size ∧
    ∀ off, (g0.own b off = .none ∨ g0.own b off = .com) → fr' = fr ∧ c'[off]? = c[off]?
  own : ∀ b off, b < w0.heap.size → (g0.own b off = .none → g.own b off = .none) ∧ (g0.own b off = .com → g.own b off = .com)
  loc : ∀ id, id < n0 → g.loc id = g0.loc id

theorem Stable.refl (w : World) (g : Gh) (n : Nat) : Stable w g n w g :=
  ⟨Nat.le_refl _, rfl, rfl, rfl, fun _ _ _ => rfl, fun _ c _ fr h => ⟨c, fr, h, rfl, fun _ _ => ⟨rfl, rfl⟩⟩, fun _ _ _ => ⟨id, id⟩, fun _ _ => rfl⟩

structure ASt where
  tmps : List (Nat × AV)
  heap : List AObj

def ASt.put (σ : ASt) (i : Nat) (v : AV) : ASt := { σ with tmps := (i, v) :: σ.tmps }
def ASt.putO (σ : ASt) (d : Option Nat) (v : AV) : ASt := match d with | some i => σ.put i v | none => σ

/-- An activation: nt temporaries; begun in (w0, g0) with n0 objects. -/
structure Base where
  nt : Nat
  w0 : World
  g0 : Gh
  n0 : Nat

structure RA (E : Env) (B : Base) (σ : ASt) (a : Act) (w : World) (g : Gh) : Prop where
  nt : a.tmps.size = B.nt
  gok : GOk w g
  gl : GlOk E w g
  tmps : TmpsOk w g σ.heap.length σ.tmps a.tmps
  heap : HeapOk w g σ.heap
  st : Stable B.w0 B.g0 B.n0 w g
  n0 : B.n0 ≤ σ.heap.length
  defers : a.defers = []

inductive AEx where
  | normal | exit (id : Nat) | ret | panic (v : AV)

def ExRel (w : World) (g : Gh) (n : Nat) : AEx → Exit → Prop
  | .normal, e => e = .normal
  | .exit id, e => e = .exit id
  | .ret, e => e = .ret
  | .panic av, e => ∃ v, e = .panic [{ v, recovered := false }] ∧ Rep w g n av v

/-- The concrete post of an abstract one. -/
def QC (E : Env) (B : Base) (Q : AEx → ASt → Prop) (e : Exit) (a : Act) (w : World) : Prop :=
  ∃ ae σ g, Q ae σ ∧ ExRel w g σ.heap.length ae e ∧ RA E B σ a w g

def KC (E : Env) (B : Base) (K : ASt → Prop) (a : Act) (w : World) : Prop := ∃ σ g, K σ ∧ RA E B σ a w g

def AWp (E : Env) (nt : Nat) (c : Code) (σ : ASt) (Q : AEx → ASt → Prop) : Prop :=
  ∀ (B : Base) a w g, B.nt = nt → RA E B σ a w g → c.wp E.P (QC E B Q) a w

inductive ARes where
  | ret (v : AV) | panic (v : AV)

def EndRel (w : World) (g : Gh) (n : Nat) : ARes → Ending → Prop
  | .ret av, e => ∃ v, e = .returned v ∧ Rep w g n av v
  | .panic av, e => ∃ v, e = .panicked [{ v, recovered := false }] ∧ Rep w g n av v

def argsOk (w : World) (g : Gh) (n : Nat) (args : List AV) (vs : Array Value) : Prop :=
  vs.size = args.length ∧ ∀ (i : Nat) (av : AV), args[i]? = some av → ∃ v, vs[i]? = some v ∧ Rep w g n av v ∧ SpareOk w g n (.tmp i) av v

/-- What comes of calling a function: it is entered and ends so; or it is an extern row that yields a value. -/
def Invokes (P : Program) (f : FuncId) (vs : Array Value) (w : World) (R : Ending → World → Prop) : Prop :=
  ((callFunc f vs).run P w = .ok (.enter f vs) w ∧ Calls P f vs w R) ∨ ∃ v w', (callFunc f vs).run P w = .ok (.value v) w' ∧ R (.returned v) w'

theorem Invokes.mono {P f vs w} {R R' : Ending → World → Prop} (h : Invokes P f vs w R) (hr : ∀ e w', R e w' → R' e w') : Invokes P f vs w R' :=
  h.imp (fun ⟨h1, h2⟩ => ⟨h1, h2.mono hr⟩) (fun ⟨v, w', h1, h2⟩ => ⟨v, w', h1, hr _ _ h2⟩)

/-- The contract of a function: called with these, it ends so. -/
def Ev (E : Env) (f : FuncId) (args : List AV) (h : List AObj) (Q : ARes → List AObj → Prop) : Prop :=
  ∀ w g vs, GOk w g → GlOk E w g → HeapOk w g h → argsOk w g h.length args vs →
    Invokes E.P f vs w (fun e w' => ∃ r h' g', Q r h' ∧ EndRel w' g' h'.length r e ∧ GOk w' g' ∧ GlOk E w' g' ∧ HeapOk w' g' h' ∧
      Stable w g h.length w' g' ∧ h.length ≤ h'.length)

theorem Ev.mono {E f args h} {Q Q' : ARes → List AObj → Prop} (hh : Ev E f args h Q) (hq : ∀ r h', Q r h' → Q' r h') : Ev E f args h Q' :=
  fun w g vs h1 h2 h3 h4 => (hh w g vs h1 h2 h3 h4).mono fun _ _ ⟨r, h', g', q, rest⟩ => ⟨r, h', g', hq _ _ q, rest⟩

/-- It returns just this, and leaves the objects as they were. -/
def EvR (E : Env) (f : FuncId) (args : List AV) (h : List AObj) (v : AV) : Prop := Ev E f args h fun r h' => r = .ret v ∧ h' = h

/-! ### Small facts -/

theorem Stable.later {w0 g0 n0 w g n} (h : Stable w0 g0 n0 w g) (hg : GOk w0 g0) (hn : n0 ≤ n) : Later w0 g0 n0 w g n where
  le := hn
  loc := h.loc
  com := fun b off u hc ho => by
    have hb : b < w0.heap.size := hg b off (by rw [ho]; simp)
    refine ⟨?_, ((h.own b off hb).2 ho)⟩
    unfold World.cell? at hc ⊢
    simp only at hc ⊢
    split at hc
    · rename_i c e fr heq
      obtain ⟨c', fr', h1, _, h3⟩ := h.cel b c e fr heq
      simp only [h1]
      simp at hc ⊢
      rw [(h3 off (.inr ho)).2]
      exact hc
    · cases hc

theorem look_cons_same {l : List (Nat × AV)} {i : Nat} {v : AV} : look ((i, v) :: l) i = v := by simp [look]
theorem look_cons_ne {l : List (Nat × AV)} {i j : Nat} {v : AV} (h : i ≠ j) : look ((i, v) :: l) j = look l j := by simp [look, h]

theorem getD_put {a : Act} {d : Nat} {v : Value} (h : d < a.tmps.size) (j : Nat) : (a.put (some d) v).tmps.getD j undef = if d = j then v else a.tmps.getD j undef := by
  simp only [Act.put, Array.getD_eq_getD_getElem?, Array.getElem?_setIfInBounds]
  split
  · rename_i hij; subst hij; simp [h]
  · rfl

theorem SpareOk.later {w g n w' g' n' s av v} (hl : Later w g n w' g' n')
    (hsp : ∀ b off u, g.own b off = .sp s → w.cell? ⟨b, off, none⟩ = some u → w.frozen? ⟨b, off, none⟩ = false →
      g'.own b off = .sp s ∧ (∃ u', w'.cell? ⟨b, off, none⟩ = some u') ∧ w'.frozen? ⟨b, off, none⟩ = false)
    (h : SpareOk w g n s av v) : SpareOk w' g' n' s av v := by
  cases av <;> try exact trivial
  rename_i c es
  cases c <;> try exact trivial
  rename_i k
  cases v <;> try exact trivial
  rename_i a len cap
  cases a <;> try exact trivial
  rename_i a
  simp only [SpareOk] at h ⊢
  obtain ⟨h0, h1, h2⟩ := h
  refine ⟨h0, Els.later hl _ _ _ _ h1, fun q hq1 hq2 => ?_⟩
  obtain ⟨h3, ⟨u, h4⟩, h5⟩ := h2 q hq1 hq2
  exact hsp _ _ _ h3 h4 h5

/-- Only the temporary d has turned; its value holds no room. -/
theorem RA.put {E B σ a w g} (h : RA E B σ a w g) {d : Nat} {av : AV} {v : Value} (hd : d < B.nt) (hr : Rep w g σ.heap.length av v) (hs : SpareOk w g σ.heap.length (.tmp d) av v) :
    RA E B (σ.put d av) (a.put (some d) v) w g where
  nt := by simp [Act.put]; exact h.nt
  gok := h.gok
  gl := h.gl
  heap := h.heap
  st := h.st
  n0 := h.n0
  defers := by simp [Act.put]; exact h.defers
  tmps := fun i => by
    rw [getD_put (by rw [h.nt]; exact hd)]
    simp only [ASt.put]
    by_cases hi : d = i
    · subst hi; rw [look_cons_same, if_pos rfl]; exact ⟨hr, hs⟩
    · rw [look_cons_ne hi, if_neg hi]; exact h.tmps i

theorem RA.putO {E B σ a w g} (h : RA E B σ a w g) {d : Option Nat} {av : AV} {v : Value} (hd : ∀ i, d = some i → i < B.nt) (hr : Rep w g σ.heap.length av v) (hs : ∀ s, SpareOk w g σ.heap.length s av v) :
    RA E B (σ.putO d av) (a.put d v) w g := by
  cases d with
  | none => exact h
  | some i => exact RA.put h (hd i rfl) hr (hs _)

end Go.Abs
