/- The relation between abstract and concrete states; contracts. -/
import Derived.Test.YtloimemacnjpgaaGreatAbsA
import Derived.Lib.FrozenHead
set_option linter.all false
namespace Go.Abs
open Go Go.RowKit

inductive KK where
  | str | int (k : IntKind) | ints (n : Nat)
  deriving DecidableEq, Inhabited

def isI64 : Value → Bool
  | .int .i64 _ => true
  | _ => false

def keyIs : KK → Value → Bool
  | .str, .string _ => true
  | .int k, .int k' _ => decide (k = k')
  | .ints n, .agg cs => decide (cs.size = n) && cs.toList.all isI64
  | _, _ => false

inductive AObj where
  | cells (l : List AV)
  | map (kk : KK) (es : List (Value × AV))
  | gone
  deriving Inhabited

structure Env where
  P : Program
  gl : Nat → Option (List AV)

def SpareOk (w : World) (g : Gh) (n : Nat) (s : Slot) : AV → Value → Prop
  | .sl (.own k) es, .slice (some a) len cap => 0 < k ∧ Els w g n es a.block a.off k ∧ ∀ q, len * k ≤ q → q < cap * k →
      g.own a.block (a.off + q) = .sp s ∧ (∃ u, w.cell? ⟨a.block, a.off + q, none⟩ = some u) ∧ w.frozen? ⟨a.block, a.off + q, none⟩ = false
  | _, _ => True

theorem SpareOk.strip {w g n s av v} : SpareOk w g n s (AV.strip av) v := by
  cases av <;> simp only [AV.strip, SpareOk]
  rename_i c es
  cases c <;> simp

def GOk (w : World) (g : Gh) : Prop := ∀ b off, g.own b off ≠ .none → b < w.heap.size

structure CellsOk (w : World) (g : Gh) (n : Nat) (id : Nat) (l : List AV) (vs : Array Value) (e : TypeId) : Prop where
  blk : w.heap[g.loc id]? = some (.cells vs e (0, 0))
  own : ∀ off, g.own (g.loc id) off = .obj id
  size : vs.size = l.length
  rep : ∀ (j : Nat) (av : AV), l[j]? = some av → ∃ v, vs[j]? = some v ∧ Rep w g n av v ∧ SpareOk w g n (.cell id j) av v
  bp : ∀ e', l[0]? = some (.bp e') → e' = e ∧ (vs[0]? = some (.pointer none) ∨ vs[0]? = some (.pointer (some ⟨g.loc id, 0, none⟩)))
  buf : ∀ j te b, l[j]? = some (.buf te b) → ∃ v, vs[j]? = some v ∧ w.ownsRowF 0 te 1 v b.length (Lib.byteCells b) ∧ ∀ k, v.ownBlock = some k → ∀ off, g.own k off = .sp (.cell id j)

def MapOk (w : World) (g : Gh) (n id : Nat) (kk : KK) (es : List (Value × AV)) : Prop :=
  ∃ (en : Array MapEntry) (clock : Nat), w.heap[g.loc id]? = some (.map en clock) ∧ (∀ off, g.own (g.loc id) off = .obj id) ∧ en.toList.map (·.key) = es.map (·.1) ∧
    Reps w g n (es.map (·.2)) (en.toList.map (·.val)) ∧ (∀ p, p ∈ es → keyIs kk p.1 = true ∧ p.2.strip = p.2) ∧ (∀ x, x ∈ en.toList → x.born < clock) ∧ (en.toList.map (·.born)).Pairwise (· < ·)

def ObjOk (w : World) (g : Gh) (n id : Nat) : AObj → Prop
  | .cells l => ∃ vs e, CellsOk w g n id l vs e
  | .map kk es => MapOk w g n id kk es
  | .gone => True

def HeapOk (w : World) (g : Gh) (h : List AObj) : Prop :=
  ∀ (id : Nat) (o : AObj), h[id]? = some o → ObjOk w g h.length id o
theorem HeapOk.mk' {w : World} {g : Gh} {h : List AObj} (h1 : ∀ (id : Nat) (l : List AV), h[id]? = some (.cells l) → ∃ vs e, CellsOk w g h.length id l vs e)
    (h2 : ∀ (id : Nat) (kk : KK) (es : List (Value × AV)), h[id]? = some (.map kk es) → MapOk w g h.length id kk es) : HeapOk w g h := fun id o ho => by
  cases o with
  | cells l => exact h1 id l ho
  | map kk es => exact h2 id kk es ho
  | gone => exact trivial
theorem HeapOk.cells {w : World} {g : Gh} {h : List AObj} (hh : HeapOk w g h) (id : Nat) (l : List AV) (hl : h[id]? = some (.cells l)) : ∃ vs e, CellsOk w g h.length id l vs e := hh id _ hl
theorem HeapOk.map {w : World} {g : Gh} {h : List AObj} (hh : HeapOk w g h) (id : Nat) (kk : KK) (es : List (Value × AV)) (hl : h[id]? = some (.map kk es)) : MapOk w g h.length id kk es := hh id _ hl

def look : List (Nat × AV) → Nat → AV
  | [], _ => .any
  | (i, v) :: l, j => if i = j then v else look l j

def TmpsOk (w : World) (g : Gh) (n : Nat) (tmps : List (Nat × AV)) (ts : Array Value) : Prop :=
  ∀ i, Rep w g n (look tmps i) (ts.getD i undef) ∧ SpareOk w g n (.tmp i) (look tmps i) (ts.getD i undef)

def GlOk (E : Env) (w : World) (g : Gh) : Prop :=
  ∀ i cs, E.gl i = some cs → ∃ vs, Holds w g i 0 vs ∧ Reps w g 0 cs vs ∧ (∃ e fr, w.heap[i]? = some (.cells vs.toArray e fr)) ∧ ∀ off, g.own i off = .com

structure Stable (w0 : World) (g0 : Gh) (n0 : Nat) (w : World) (g : Gh) : Prop where
  size : w0.heap.size ≤ w.heap.size
  os : w.os = w0.os
  output : w.output = w0.output
  tape : w.tape = w0.tape
  blk : ∀ b, b < w0.heap.size → (∀ off, g0.own b off = .none ∨ g0.own b off = .com) → w.heap[b]? = w0.heap[b]?
  cel : ∀ b c e fr, w0.heap[b]? = some (.cells c e fr) → (∃ off, g0.own b off = .none ∨ g0.own b off = .com) → ∃ c' fr', w.heap[b]? = some (.cells c' e fr') ∧ c'.size = c.size ∧
    ∀ off, (g0.own b off = .none ∨ g0.own b off = .com) → fr' = fr ∧ c'[off]? = c[off]?
  own : ∀ b off, b < w0.heap.size → (g0.own b off = .none → g.own b off = .none) ∧ (g0.own b off = .com → g.own b off = .com)
  loc : ∀ id, id < n0 → g.loc id = g0.loc id

theorem Stable.refl (w : World) (g : Gh) (n : Nat) : Stable w g n w g :=
  ⟨Nat.le_refl _, rfl, rfl, rfl, fun _ _ _ => rfl, fun _ c _ fr h _ => ⟨c, fr, h, rfl, fun _ _ => ⟨rfl, rfl⟩⟩, fun _ _ _ => ⟨id, id⟩, fun _ _ => rfl⟩

structure ASt where
  tmps : List (Nat × AV)
  heap : List AObj

def ASt.put (σ : ASt) (i : Nat) (v : AV) : ASt := { σ with tmps := (i, v) :: σ.tmps }
def ASt.putO (σ : ASt) (d : Option Nat) (v : AV) : ASt := match d with | some i => σ.put i v | none => σ

structure Base where
  nt : Nat
  w0 : World
  g0 : Gh
  n0 : Nat
  ds : List Deferred := []

structure RA (E : Env) (B : Base) (σ : ASt) (a : Act) (w : World) (g : Gh) : Prop where
  nt : a.tmps.size = B.nt
  gok : GOk w g
  gl : GlOk E w g
  tmps : TmpsOk w g σ.heap.length σ.tmps a.tmps
  heap : HeapOk w g σ.heap
  st : Stable B.w0 B.g0 B.n0 w g
  n0 : B.n0 ≤ σ.heap.length
  defers : a.defers = B.ds

inductive AEx where
  | normal | exit (id : Nat) | ret | panic (v : AV)

def ExRel (w : World) (g : Gh) (n : Nat) : AEx → Exit → Prop
  | .normal, e => e = .normal
  | .exit id, e => e = .exit id
  | .ret, e => e = .ret
  | .panic av, e => ∃ v, e = .panic [{ v, recovered := false }] ∧ Rep w g n av v

def QC (E : Env) (B : Base) (Q : AEx → ASt → Prop) (e : Exit) (a : Act) (w : World) : Prop :=
  ∃ ae σ g, Q ae σ ∧ ExRel w g σ.heap.length ae e ∧ RA E B σ a w g

def KC (E : Env) (B : Base) (K : ASt → Prop) (a : Act) (w : World) : Prop := ∃ σ g, K σ ∧ RA E B σ a w g

inductive ARes where
  | ret (v : AV) | panic (v : AV)

def EndRel (w : World) (g : Gh) (n : Nat) : ARes → Ending → Prop
  | .ret av, e => ∃ v, e = .returned v ∧ Rep w g n av v
  | .panic av, e => ∃ v, e = .panicked [{ v, recovered := false }] ∧ Rep w g n av v

def argsOk (w : World) (g : Gh) (n : Nat) (args : List AV) (vs : Array Value) : Prop :=
  vs.size = args.length ∧ ∀ (i : Nat) (av : AV), args[i]? = some av → ∃ v, vs[i]? = some v ∧ Rep w g n av v ∧ SpareOk w g n (.tmp i) av v

def Invokes (P : Program) (f : FuncId) (vs : Array Value) (w : World) (R : Ending → World → Prop) : Prop :=
  ((callFunc f vs).run P w = .ok (.enter f vs) w ∧ Calls P f vs w R) ∨ ∃ v w', (callFunc f vs).run P w = .ok (.value v) w' ∧ R (.returned v) w'

theorem Invokes.mono {P f vs w} {R R' : Ending → World → Prop} (h : Invokes P f vs w R) (hr : ∀ e w', R e w' → R' e w') : Invokes P f vs w R' :=
  h.imp (fun ⟨h1, h2⟩ => ⟨h1, h2.mono hr⟩) (fun ⟨v, w', h1, h2⟩ => ⟨v, w', h1, hr _ _ h2⟩)

def Ev (E : Env) (f : FuncId) (args : List AV) (h : List AObj) (Q : ARes → List AObj → Prop) : Prop :=
  ∀ w g vs, GOk w g → GlOk E w g → HeapOk w g h → argsOk w g h.length args vs →
    Invokes E.P f vs w (fun e w' => ∃ r h' g', Q r h' ∧ EndRel w' g' h'.length r e ∧ GOk w' g' ∧ GlOk E w' g' ∧ HeapOk w' g' h' ∧
      Stable w g h.length w' g' ∧ h.length ≤ h'.length)

theorem Ev.mono {E f args h} {Q Q' : ARes → List AObj → Prop} (hh : Ev E f args h Q) (hq : ∀ r h', Q r h' → Q' r h') : Ev E f args h Q' :=
  fun w g vs h1 h2 h3 h4 => (hh w g vs h1 h2 h3 h4).mono fun _ _ ⟨r, h', g', q, rest⟩ => ⟨r, h', g', hq _ _ q, rest⟩

def EvR (E : Env) (f : FuncId) (args : List AV) (h : List AObj) (v : AV) : Prop := Ev E f args h fun r h' => r = .ret v ∧ h' = h

theorem Stable.later {w0 g0 n0 w g n} (h : Stable w0 g0 n0 w g) (hg : GOk w0 g0) (hn : n0 ≤ n) : Later w0 g0 n0 w g n where
  le := hn
  loc := h.loc
  blk := fun b o hb ho => by
    have hlt : b < w0.heap.size := by
      rcases Nat.lt_or_ge b w0.heap.size with h | h
      · exact h
      · simp [Array.getElem?_eq_none h] at hb
    exact ⟨by rw [h.blk b hlt (fun off => .inr (ho off))]; exact hb, fun off => (h.own b off hlt).2 (ho off)⟩
  com := fun b off u hc ho => by
    have hb : b < w0.heap.size := hg b off (by rw [ho]; simp)
    refine ⟨?_, ((h.own b off hb).2 ho)⟩
    unfold World.cell? at hc ⊢
    simp only at hc ⊢
    split at hc
    · rename_i c e fr heq
      obtain ⟨c', fr', h1, _, h3⟩ := h.cel b c e fr heq ⟨off, .inr ho⟩
      simp only [h1]
      simp at hc ⊢
      rw [(h3 off (.inr ho)).2]
      exact hc
    · cases hc

theorem look_cons_same {l : List (Nat × AV)} {i : Nat} {v : AV} : look ((i, v) :: l) i = v := by simp [look]
theorem look_cons_ne {l : List (Nat × AV)} {i j : Nat} {v : AV} (h : i ≠ j) : look ((i, v) :: l) j = look l j := by simp [look, h]

theorem getD_put {a : Act} {d : Nat} {v : Value} (h : d < a.tmps.size) (j : Nat) : (a.put (some d) v).tmps.getD j undef = if d = j then v else a.tmps.getD j undef := by
  simp only [Act.put, Array.getD_eq_getD_getElem?, Array.getElem?_setIfInBounds]
  split
  · rename_i hij; subst hij; simp [h]
  · rfl

theorem SpareOk.later {w g n w' g' n' s av v} (hl : Later w g n w' g' n')
    (hsp : ∀ b off u, g.own b off = .sp s → w.cell? ⟨b, off, none⟩ = some u → w.frozen? ⟨b, off, none⟩ = false →
      g'.own b off = .sp s ∧ (∃ u', w'.cell? ⟨b, off, none⟩ = some u') ∧ w'.frozen? ⟨b, off, none⟩ = false)
    (h : SpareOk w g n s av v) : SpareOk w' g' n' s av v := by
  cases av <;> try exact trivial
  rename_i c es
  cases c <;> try exact trivial
  rename_i k
  cases v <;> try exact trivial
  rename_i a len cap
  cases a <;> try exact trivial
  rename_i a
  simp only [SpareOk] at h ⊢
  obtain ⟨h0, h1, h2⟩ := h
  refine ⟨h0, Els.later hl _ _ _ _ h1, fun q hq1 hq2 => ?_⟩
  obtain ⟨h3, ⟨u, h4⟩, h5⟩ := h2 q hq1 hq2
  exact hsp _ _ _ h3 h4 h5

theorem RA.put {E B σ a w g} (h : RA E B σ a w g) {d : Nat} {av : AV} {v : Value} (hd : d < B.nt) (hr : Rep w g σ.heap.length av v) (hs : SpareOk w g σ.heap.length (.tmp d) av v) :
    RA E B (σ.put d av) (a.put (some d) v) w g where
  nt := by simp [Act.put]; exact h.nt
  gok := h.gok
  gl := h.gl
  heap := h.heap
  st := h.st
  n0 := h.n0
  defers := by simp [Act.put]; exact h.defers
  tmps := fun i => by
    rw [getD_put (by rw [h.nt]; exact hd)]
    simp only [ASt.put]
    by_cases hi : d = i
    · subst hi; rw [look_cons_same, if_pos rfl]; exact ⟨hr, hs⟩
    · rw [look_cons_ne hi, if_neg hi]; exact h.tmps i

theorem RA.putO {E B σ a w g} (h : RA E B σ a w g) {d : Option Nat} {av : AV} {v : Value} (hd : ∀ i, d = some i → i < B.nt) (hr : Rep w g σ.heap.length av v) (hs : ∀ s, SpareOk w g σ.heap.length s av v) :
    RA E B (σ.putO d av) (a.put d v) w g := by
  cases d with
  | none => exact h
  | some i => exact RA.put h (hd i rfl) hr (hs _)

end Go.Abs

namespace Go.Abs
open Go Go.RowKit

inductive AOp where
  | move (x : Operand)
  | pick (c a b : Operand)
  | nilCheck (x : Operand)
  | bin (op : BinOp) (x y : Operand)
  | eqB (neg : Bool) (x y : Operand)
  | eqN (neg : Bool) (kind : Nat) (x y : Operand)
  | eqS (neg : Bool) (ks : List Nat) (x y : Operand)
  | un (op : UnOp) (x : Operand)
  | conv (k : IntKind) (x : Operand)
  | convS (x : Operand)
  | toStr (x : Operand)
  | slice (k : Nat) (x : Operand) (lo hi : Option Operand)
  | sliceS (x : Operand) (lo hi : Option Operand)
  | fieldAddr (off : Nat) (x : Operand)
  | field (off : Nat) (n : Option Nat) (x : Operand)
  | indexAddr (k : Nat) (x i : Operand)
  | indexAddrArr (len k : Nat) (x i : Operand)
  | indexS (x i : Operand)
  | indexArr (len k : Nat) (n : Option Nat) (x i : Operand)
  | load (n : Option Nat) (x : Operand)
  | extract (x : Operand) (i : Nat)
  | len (str : Bool) (x : Operand)
  | mkIface (t : TypeId) (x : Operand)
  | mkFunc (f : Fn) (first caps : List Operand)
  | build (zero : List AV) (parts : List (Nat × Nat × Operand))
  | minmax (mx : Bool) (x y : Operand)
  | lookup (ok : Bool) (kk : KK) (zero : AV) (x i : Operand)
  | lenM (x : Operand)
  | slice3 (k : Nat) (x : Operand) (lo hi : Option Operand) (mx : Operand)
  | capS (x : Operand)
  | typeAssert (t : TypeId) (zero : AV) (x : Operand) (ok : Bool)
  -- those that act
  | makeMap (kk : KK)
  | mapSet (kk : KK) (m k v : Operand)
  | appendO (k bytes : Nat) (zero : List AV) (s x : Operand)
  | clearS (k : Nat) (zero : List AV) (x : Operand)
  | appendZ (k bytes : Nat) (zero : List AV) (s x : Operand)
  | eqNil (neg : Bool) (x : Operand)
  | take (t : Tmp)
  | box (x : Operand)
  | alloc (zero : List AV)
  | store (n : Nat) (x y : Operand)
  | append (k bytes : Nat) (zero : List AV) (s x : Operand)
  | toBytes (x : Operand)
  | buildSlice (obj : Bool) (k : Nat) (zero : List AV) (len : Nat) (parts : List (Nat × Operand))
  | makeSlice (obj : Bool) (k bytes : Nat) (zero : List AV) (len cap : Operand)
  | call (f : Operand) (args : List (Operand × Bool))
  | panic (x : Operand)
  | conv8 (x : Operand)
  | boxB (e te : TypeId) (x : Operand)

def ofCell : Value → AV
  | .slice none 0 0 => .sl .full []
  | v => .lit v

def ofConst : Value → AV
  | .slice none 0 0 => .sl .full []
  | .agg cs => .agg (cs.toList.map ofCell)
  | v => .lit v

def aggN (P : Program) (t : TypeId) : Option (Option Nat) :=
  match P.underlying t, P.info? t with
  | some (.struct _), some i | some (.array _ _), some i => some (some i.size)
  | some _, some _ => some none
  | _, _ => none

def isBool (P : Program) (t : TypeId) : Bool := match P.underlying t with | some .bool => true | _ => false
def isString (P : Program) (t : TypeId) : Bool := match P.underlying t with | some .string => true | _ => false
def nilKind (P : Program) (t : TypeId) (c : Bool) : Option Nat := match P.underlying t with
  | some (.pointer _) => some 0
  | some (.func _ _ _) => some 1
  | some (.interface _) => if c then some 2 else none
  | some (.map _ _) => some 3
  | _ => none
def eqKind (P : Program) (t : TypeId) : Option Nat := match P.underlying t, P.info? t with
  | some .bool, some _ => some 0
  | some (.int _), some _ => some 1
  | some .string, some _ => some 2
  | _, _ => none
def eqKindsL (P : Program) : Nat → List Field → Option (List Nat)
  | _, [] => some []
  | i, f :: fs => if f.name ≠ "_" ∧ f.offset = i then (match eqKind P f.type, eqKindsL P (i + 1) fs with | some k, some ks => some (k :: ks) | _, _ => none) else none
def eqKinds (P : Program) (t : TypeId) : Option (List Nat) := match P.underlying t with
  | some (.struct fs) => if P.stoodInHeld t = false ∧ P.eqGuardType P.depth t = false then eqKindsL P 0 fs.toList else none
  | _ => none
def isCon : Operand → Bool | .const _ => true | _ => false
def isSliceT (P : Program) (t : TypeId) : Bool := match P.underlying t with | some (.slice _) => true | _ => false
def isIntT (P : Program) (t : TypeId) : Bool := match P.underlying t with | some (.int _) => true | _ => false

def isI64T (P : Program) (t : TypeId) : Bool := match P.underlying t with | some (.int .i64) => true | _ => false
def fieldsI64 (P : Program) : Nat → List Field → Bool
  | _, [] => true
  | i, f :: fs => decide (f.name ≠ "_") && decide (f.offset = i) && isI64T P f.type && (P.info? f.type).isSome && fieldsI64 P (i + 1) fs
def kkOf (P : Program) (k : TypeId) : Option KK := match P.underlying k with
  | some .string => some .str
  | some (.int q) => some (.int q)
  | some (.struct fs) => if P.stoodInHeld k = false ∧ fieldsI64 P 0 fs.toList = true then some (.ints fs.size) else none
  | _ => none
def sameInts : List Value → List Value → Bool
  | [], [] => true
  | .int _ a :: as, .int _ b :: bs => decide (a = b) && sameInts as bs
  | _, _ => false
def sameKey : Value → Value → Bool
  | .string a, .string b => decide (a = b)
  | .int _ a, .int _ b => decide (a = b)
  | .agg a, .agg b => sameInts a.toList b.toList
  | _, _ => false
def mix : List (Value × AV) → Value → Option Nat
  | [], _ => none
  | p :: es, k => if sameKey k p.1 then some 0 else (mix es k).map (· + 1)
def mget (es : List (Value × AV)) (k : Value) : Option AV := match mix es k with
  | some i => (es[i]?).map (·.2)
  | none => none
def mput (es : List (Value × AV)) (k : Value) (v : AV) : List (Value × AV) := match mix es k with
  | some i => es.set i (k, v)
  | none => es ++ [(k, v)]
def litsI64 : List AV → Option (List Value)
  | [] => some []
  | .lit (.int .i64 n) :: l => (match litsI64 l with | some vs => some (.int .i64 n :: vs) | none => none)
  | _ => none
def avKey : KK → AV → Option Value
  | .str, .lit (.string s) => some (.string s)
  | .int k, .lit (.int k' n) => if k' = k then some (.int k' n) else none
  | .ints n, .agg cs => (match litsI64 cs with | some vs => if vs.length = n then some (.agg vs.toArray) else none | none => none)
  | _, _ => none

def zerosL (n : Nat) (zero : List AV) : List AV := (List.replicate n zero).flatten
def offAt (off k cap l : Nat) : Nat := if l = cap then off else off + l * k

def capAft : Cap → List AV → Cap
  | .full, [] => .full
  | _, _ => .unk

def placed (place : Nat → Option (Nat × Nat)) : List (Nat × Operand) → Option (List (Nat × Nat × Operand))
  | [] => some []
  | (i, x) :: rest => match place i, placed place rest with
    | some (off, n), some l => some ((off, n, x) :: l)
    | _, _ => none

def cop (P : Program) : Op → Option AOp
  | .move x | .assign x => some (.move x)
  | .pick c a b => some (.pick c a b)
  | .nilCheck x => some (.nilCheck x)
  | .binOp op t x y _ =>
    if isSliceT P t then (match op, y with | .eql, .const (.slice none 0 0) => some (.eqNil false x) | .neq, .const (.slice none 0 0) => some (.eqNil true x) | _, _ => none)
    else if isBool P t then (match op with | .eql => some (.eqB false x y) | .neq => some (.eqB true x y) | _ => none)
    else if isIntT P t || isString P t then some (.bin op x y)
    else match nilKind P t (isCon x || isCon y) with
      | some kind => (match op with | .eql => some (.eqN false kind x y) | .neq => some (.eqN true kind x y) | _ => none)
      | none => (match eqKinds P t with
        | some ks => (match op with | .eql => some (.eqS false ks x y) | .neq => some (.eqS true ks x y) | _ => none)
        | none => none)
  | .unOp op _ x => some (.un op x)
  | .convert src dst x => match P.underlying src, P.underlying dst with
    | some (.int _), some (.int k) => some (.conv k x)
    | some .string, some .string => some (.convS x)
    | some (.slice e), some .string => (match P.underlying e with | some (.int .u8) => some (.toStr x) | _ => none)
    | some .string, some (.slice e) => (match P.underlying e with | some (.int .u8) => some (.toBytes x) | _ => none)
    | some (.slice _), some (.slice e) => (match P.underlying e with | some (.int .u8) => if src = dst then some (.conv8 x) else none | _ => none)
    | _, _ => none
  | .slice t x lo hi none => match P.underlying t with
    | some .string => some (.sliceS x lo hi)
    | some (.slice e) => (match P.info? e with | some inf => some (.slice inf.size x lo hi) | none => none)
    | _ => none
  | .fieldAddr s x f => match P.underlying s with
    | some (.struct fields) => (match fields[f]? with
      | some fd => (match P.info? fd.type with | some i => if i.size = 0 then none else some (.fieldAddr fd.offset x) | none => none)
      | none => none)
    | _ => none
  | .field s x f => match P.underlying s with
    | some (.struct fields) => (match fields[f]? with
      | some fd => (match aggN P fd.type with | some n => some (.field fd.offset n x) | none => none)
      | none => none)
    | _ => none
  | .indexAddr t x i => match P.underlying t with
    | some (.slice e) => (match P.info? e with | some inf => some (.indexAddr inf.size x i) | none => none)
    | some (.array len e) => (match P.info? e with | some inf => some (.indexAddrArr len inf.size x i) | none => none)
    | _ => none
  | .index t x i => match P.underlying t with
    | some .string => some (.indexS x i)
    | some (.array len e) => (match P.info? e, aggN P e with | some inf, some n => some (.indexArr len inf.size n x i) | _, _ => none)
    | _ => none
  | .load t x => match aggN P t with | some n => some (.load n x) | none => none
  | .store t x y => match P.info? t with | some i => some (.store i.size x y) | none => none
  | .extract x i => some (.extract x i)
  | .makeInterface t x => match P.underlying t with | some (.interface _) => none | some _ => some (.mkIface t x) | none => none
  | .makeFunc f first caps => some (.mkFunc f first.toList caps.toList)
  | .build t parts => match P.info? t, P.underlying t with
    | some it, some (.array _ e) => (match it.zero, P.info? e with
      | some z, some ie => (match placed (fun i => some (i * ie.size, ie.size)) parts.toList with
        | some l => some (.build (z.cells.toList.map ofCell) l)
        | none => none)
      | _, _ => none)
    | some it, some (.struct fields) => (match it.zero, fields.toList.mapM (fun f => (P.info? f.type).map fun i => (f.offset, i.size)) with
      | some z, some places => (match placed (places.toArray[·]?) parts.toList with
        | some l => some (.build (z.cells.toList.map ofCell) l)
        | none => none)
      | _, _ => none)
    | _, _ => none
  | .box _ x => some (.box x)
  | .alloc t => match P.info? t with
    | some inf => (match inf.zero with | some z => some (.alloc (z.cells.toList.map ofCell)) | none => none)
    | none => none
  | .buildSlice t len parts => match P.underlying t with
    | some (.slice e) => (match P.info? e with
      | some inf => (match inf.zero with | some z => some (.buildSlice false inf.size (z.cells.toList.map ofCell) len parts.toList) | none => none)
      | none => none)
    | _ => none
  | .makeSlice t l c => match P.underlying t with
    | some (.slice e) => (match P.info? e with
      | some inf => (match inf.zero with | some z => some (.makeSlice false inf.size inf.bytes (z.cells.toList.map ofCell) l c) | none => none)
      | none => none)
    | _ => none
  | .panic x => some (.panic x)
  | .slice t x lo hi (some mx) => match P.underlying t with
    | some (.slice e) => (match P.info? e with | some inf => some (.slice3 inf.size x lo hi mx) | none => none)
    | _ => none
  | .typeAssert x _ t ok => match P.underlying t, P.info? t with
    | some (.interface _), _ => none
    | some _, some inf => (match inf.zero with | some z => some (.typeAssert t (ofConst z) x ok) | none => none)
    | _, _ => none
  | .makeMap t none => match P.underlying t with
    | some (.map k _) => (match kkOf P k with | some kk => some (.makeMap kk) | none => none)
    | _ => none
  | .lookup t x i ok => match P.underlying t with
    | some (.map k e) => (match kkOf P k, P.info? e with
      | some kk, some inf => (match inf.zero with | some z => some (.lookup ok kk (ofConst z) x i) | none => none)
      | _, _ => none)
    | _ => none
  | .mapUpdate t m k x | .insert t m k x => match P.underlying t with
    | some (.map kt _) => (match kkOf P kt with | some kk => some (.mapSet kk m k x) | none => none)
    | _ => none
  | .call { callee := .builtin .len, args, argTypes } => match args[0]?, argTypes[0]? with
    | some x, some t => (match P.underlying t with | some .string => some (.len true x) | some (.slice _) => some (.len false x) | some (.map _ _) => some (.lenM x) | _ => none)
    | _, _ => none
  | .call { callee := .builtin .cap, args, argTypes } => match args[0]?, argTypes[0]? with
    | some x, some t => (match P.underlying t with | some (.slice _) => some (.capS x) | _ => none)
    | _, _ => none
  | .call { callee := .builtin .clear, args, argTypes } => match args[0]?, argTypes[0]? with
    | some x, some t => (match P.underlying t with
      | some (.slice e) => (match P.info? e with
        | some inf => (match inf.zero with | some z => some (.clearS inf.size (z.cells.toList.map ofCell) x) | none => none)
        | none => none)
      | _ => none)
    | _, _ => none
  | .call { callee := .builtin .append, args, argTypes } => match args.toList, argTypes.toList with
    | [s, x], [t, tx] => (match P.underlying t with
      | some (.slice e) => (match P.info? e, P.underlying tx with
        | some inf, some (.slice _) | some inf, some .string => (match inf.zero with | some z => some (.append inf.size inf.bytes (z.cells.toList.map ofCell) s x) | none => none)
        | some inf, some (.int _) => (match inf.zero with | some z => some (.appendZ inf.size inf.bytes (z.cells.toList.map ofCell) s x) | none => none)
        | _, _ => none)
      | _ => none)
    | _, _ => none
  | .call { callee := .builtin .max, args, .. } => (match args.toList with | [x, y] => some (.minmax true x y) | _ => none)
  | .call { callee := .builtin .min, args, .. } => (match args.toList with | [x, y] => some (.minmax false x y) | _ => none)
  | .call { callee := .value f, args, .. } => some (.call f (args.toList.map fun x => (x, false)))
  | _ => none

def ibits (op : BinOp) (k : IntKind) (x y : Int) : Int :=
  let a := BitVec.ofInt k.bits x
  let b := BitVec.ofInt k.bits y
  match op with
  | .and => k.wrap (a &&& b).toNat
  | .or => k.wrap (a ||| b).toNat
  | .xor => k.wrap (a ^^^ b).toNat
  | _ => k.wrap (a &&& ~~~b).toNat

def sless (a b : ByteArray) : Bool := Op.bytesLess a.toList b.toList

def binW (op : BinOp) (u v : Value) (K : Value → Prop) : Prop :=
  match u, v with
  | .int k a, .int k' b => match op with
    | .shl => 0 ≤ b ∧ K (.int k (k.wrap (a * 2 ^ (min b.toNat k.bits))))
    | .shr => 0 ≤ b ∧ K (.int k (a.fdiv (2 ^ (min b.toNat k.bits))))
    | .add => k = k' ∧ K (.int k (k.wrap (a + b)))
    | .sub => k = k' ∧ K (.int k (k.wrap (a - b)))
    | .mul => k = k' ∧ K (.int k (k.wrap (a * b)))
    | .quo => k = k' ∧ b ≠ 0 ∧ K (.int k (k.wrap (a.tdiv b)))
    | .rem => k = k' ∧ b ≠ 0 ∧ K (.int k (a.tmod b))
    | .and => k = k' ∧ K (.int k (ibits .and k a b))
    | .or => k = k' ∧ K (.int k (ibits .or k a b))
    | .xor => k = k' ∧ K (.int k (ibits .xor k a b))
    | .andNot => k = k' ∧ K (.int k (ibits .andNot k a b))
    | .eql => k = k' ∧ K (.bool (decide (a = b)))
    | .neq => k = k' ∧ K (.bool (!decide (a = b)))
    | .lss => k = k' ∧ K (.bool (decide (a < b)))
    | .leq => k = k' ∧ K (.bool (decide (a ≤ b)))
    | .gtr => k = k' ∧ K (.bool (decide (b < a)))
    | .geq => k = k' ∧ K (.bool (decide (b ≤ a)))
  | .string a, .string b => match op with
    | .add => a.size + b.size < 2 ^ 63 ∧ K (.string (a ++ b))
    | .eql => K (.bool (decide (a = b)))
    | .neq => K (.bool (!decide (a = b)))
    | .lss => K (.bool (sless a b))
    | .leq => K (.bool (sless a b || decide (a = b)))
    | .gtr => K (.bool (!(sless a b || decide (a = b))))
    | .geq => K (.bool (!sless a b))
    | _ => False
  | _, _ => False

def nilness : Nat → AV → Option Bool
  | 0, .lit (.pointer none) => some true
  | 0, .ref _ _ | 0, .cp _ => some false
  | 1, .lit .nilFunc => some true
  | 1, .fn _ _ _ => some false
  | 2, .lit .nilIface => some true
  | 2, .ifc _ _ => some false
  | 3, .lit (.map none) => some true
  | _, _ => none

def eqCells : List Nat → List AV → List AV → Option Bool
  | [], [], [] => some true
  | 0 :: ks, .lit (.bool a) :: as, .lit (.bool b) :: bs => (match eqCells ks as bs with | some r => some (decide (a = b) && r) | none => none)
  | 1 :: ks, .lit (.int k a) :: as, .lit (.int k' b) :: bs => if k = k' then (match eqCells ks as bs with | some r => some (decide (a = b) && r) | none => none) else none
  | 2 :: ks, .lit (.string a) :: as, .lit (.string b) :: bs => (match eqCells ks as bs with | some r => some (decide (a = b) && r) | none => none)
  | _, _, _ => none

def bitesOf : List AV → Option (List UInt8)
  | [] => some []
  | .lit (.int .u8 n) :: l => (bitesOf l).map (UInt8.ofNat n.toNat :: ·)
  | _ => none

def setMany (cs : List AV) (off : Nat) : List AV → List AV
  | [] => cs
  | v :: l => setMany (cs.set off v) (off + 1) l

def fillA (ev : Operand → AV) (cs : List AV) : List (Nat × Nat × Operand) → Option (List AV)
  | [] => some cs
  | (off, n, x) :: rest =>
    if (ev x).sure = true ∧ (ev x).cells.length = n ∧ off + n ≤ cs.length then fillA ev (setMany cs off (ev x).cells) rest else none

def vop (h : List AObj) (ev : Operand → AV) : AOp → (AV → Prop) → Prop
  | .move x, K => K (ev x)
  | .pick c a b, K => (match ev c with | .lit (.bool t) => K (if t then ev a else ev b) | _ => False)
  | .nilCheck x, K => (match ev x with
    | .ref id off => K (.ref id off)
    | .cp cs => K (.cp cs)
    | .fn (.func f) a b => K (.fn (.func f) a b)
    | .ifc t v => K (.ifc t v)
    | _ => False)
  | .bin op x y, K => (match ev x, ev y with | .lit u, .lit v => binW op u v (fun r => K (.lit r)) | _, _ => False)
  | .eqB neg x y, K => (match ev x, ev y with | .lit (.bool a), .lit (.bool b) => K (.lit (.bool (xor neg (decide (a = b))))) | _, _ => False)
  | .eqN neg kind x y, K => (match nilness kind (ev x), nilness kind (ev y) with
    | some true, some b => K (.lit (.bool (xor neg b)))
    | some false, some true => K (.lit (.bool neg))
    | _, _ => False)
  | .eqS neg ks x y, K => (match ev x, ev y with
    | .agg cs, .agg ds => (match eqCells ks cs ds with | some b => K (.lit (.bool (xor neg b))) | none => False)
    | _, _ => False)
  | .un op x, K => (match op, ev x with
    | .not, .lit (.bool b) => K (.lit (.bool (!b)))
    | .neg, .lit (.int k n) => K (.lit (.int k (k.wrap (0 - n))))
    | .xor, .lit (.int k n) => K (.lit (.int k (ibits .xor k (if k.signed then -1 else k.max) n)))
    | _, _ => False)
  | .conv k x, K => (match ev x with | .lit (.int _ n) => K (.lit (.int k (k.wrap n))) | _ => False)
  | .convS x, K => (match ev x with | .lit (.string s) => K (.lit (.string s)) | _ => False)
  | .toStr x, K => (match ev x with | .sl _ es => (match bitesOf es with | some l => K (.lit (.string ⟨l.toArray⟩)) | none => False) | _ => False)
  | .slice k x lo hi, K => (match ev x with
    | .sl c es => ∃ l u : Int, (match lo with | none => l = 0 | some y => ∃ k, ev y = .lit (.int k l)) ∧ (match hi with | none => u = es.length | some y => ∃ k, ev y = .lit (.int k u)) ∧
        0 ≤ l ∧ l ≤ u ∧ u ≤ es.length ∧ (l = 0 ∨ ∀ e, e ∈ es → e.sure = true ∧ e.cells.length = k) ∧ K (.sl (capAft c es) ((es.take u.toNat).drop l.toNat))
    | .vw id off len cap => ∃ l u : Int, (match lo with | none => l = 0 | some y => ∃ k, ev y = .lit (.int k l)) ∧ (match hi with | none => u = len | some y => ∃ k, ev y = .lit (.int k u)) ∧
        0 ≤ l ∧ l ≤ u ∧ u ≤ cap ∧ K (.vw id (offAt off k cap l.toNat) (u.toNat - l.toNat) (cap - l.toNat))
    | _ => False)
  | .slice3 k x lo hi mx, K => (match ev x with
    | .sl _ es => ∃ l u m : Int, (match lo with | none => l = 0 | some y => ∃ k, ev y = .lit (.int k l)) ∧ (match hi with | none => False | some y => ∃ k, ev y = .lit (.int k u)) ∧ (∃ k, ev mx = .lit (.int k m)) ∧
        0 ≤ l ∧ l ≤ u ∧ u = m ∧ m ≤ es.length ∧ (∀ e, e ∈ es → e.sure = true ∧ e.cells.length = k) ∧ K (.sl .full ((es.take u.toNat).drop l.toNat))
    | _ => False)
  | .capS x, K => (match ev x with
    | .vw _ _ _ cap => K (.lit (.int .i64 cap))
    | .sl .full es => K (.lit (.int .i64 es.length))
    | _ => False)
  | .typeAssert t zero x ok, K => (match ev x with
    | .ifc t' v => if t' = t then K (if ok then .tup [v.strip, .lit (.bool true)] else v.strip) else ok = true ∧ K (.tup [zero, .lit (.bool false)])
    | .lit .nilIface => ok = true ∧ K (.tup [zero, .lit (.bool false)])
    | _ => False)
  | .sliceS x lo hi, K => (match ev x with
    | .lit (.string s) => ∃ l u : Int, (match lo with | none => l = 0 | some y => ∃ k, ev y = .lit (.int k l)) ∧ (match hi with | none => u = s.size | some y => ∃ k, ev y = .lit (.int k u)) ∧
        0 ≤ l ∧ l ≤ u ∧ u ≤ s.size ∧ K (.lit (.string (s.extract l.toNat u.toNat)))
    | _ => False)
  | .fieldAddr off x, K => (match ev x with
    | .ref id o => K (.ref id (o + off))
    | .cp cs => K (.cp (cs.drop off))
    | _ => False)
  | .field off n x, K => (match ev x with
    | .agg cs => (match n with
      | some n => K (.agg ((cs.drop off).take n))
      | none => (match cs[off]? with | some v => K v.strip | none => False))
    | _ => False)
  | .indexAddr k x i, K => (match ev x, ev i with
    | .sl _ es, .lit (.int _ j) => (0 ≤ j ∧ j < es.length) ∧ ∀ e, es[j.toNat]? = some e → e.sure = true ∧ e.cells.length = k ∧ K (.cp e.cells)
    | .vw id off len _, .lit (.int _ j) => (0 ≤ j ∧ j < len) ∧ K (.ref id (off + j.toNat * k))
    | _, _ => False)
  | .indexAddrArr len k x i, K => (match ev x, ev i with
    | .ref id o, .lit (.int _ j) => (0 ≤ j ∧ j < len) ∧ K (.ref id (o + j.toNat * k))
    | .cp cs, .lit (.int _ j) => (0 ≤ j ∧ j < len) ∧ K (.cp (cs.drop (j.toNat * k)))
    | _, _ => False)
  | .indexS x i, K => (match ev x, ev i with
    | .lit (.string s), .lit (.int _ j) => (0 ≤ j ∧ j < s.size) ∧ ∀ c, s[j.toNat]? = some c → K (.lit (.int .u8 c.toNat))
    | _, _ => False)
  | .indexArr len k n x i, K => (match ev x, ev i with
    | .agg cs, .lit (.int _ j) => (0 ≤ j ∧ j < len) ∧ (match n with
      | some n => K (.agg ((cs.drop (j.toNat * k)).take n))
      | none => ∀ e, cs[j.toNat * k]? = some e → K e.strip) ∧ len * k ≤ cs.length ∧ 0 < k
    | _, _ => False)
  | .load n x, K => (match ev x with
    | .ref id off => (match h[id]? with
      | some (.cells l) => (match n with
        | none => (match l[off]? with | some v => K v.strip | none => False)
        | some n => off + n ≤ l.length ∧ K (.agg (((l.drop off).take n).map AV.strip)))
      | _ => False)
    | .cp cs => (match n with
      | none => (match cs[0]? with | some v => K v.strip | none => False)
      | some n => n ≤ cs.length ∧ K (.agg (cs.take n)))
    | _ => False)
  | .extract x i, K => (match ev x with | .tup vs => (match vs[i]? with | some v => K v.strip | none => False) | _ => False)
  | .len true x, K => (match ev x with
    | .lit (.string s) => K (.lit (.int .i64 s.size))
    | _ => False)
  | .len false x, K => (match ev x with
    | .sl _ es => K (.lit (.int .i64 es.length))
    | .vw _ _ len _ => K (.lit (.int .i64 len))
    | _ => False)
  | .lookup ok kk zero x i, K => (match ev x, avKey kk (ev i) with
    | .mp id, some key => (match h[id]? with
      | some (.map kk' es) => kk' = kk ∧ (match mget es key with
        | some v => K (if ok then .tup [v, .lit (.bool true)] else v)
        | none => K (if ok then .tup [zero, .lit (.bool false)] else zero))
      | _ => False)
    | .lit (.map none), some _ => K (if ok then .tup [zero, .lit (.bool false)] else zero)
    | _, _ => False)
  | .lenM x, K => (match ev x with
    | .mp id => (match h[id]? with | some (.map _ es) => K (.lit (.int .i64 es.length)) | _ => False)
    | _ => False)
  | .mkIface t x, K => K (.ifc t (ev x))
  | .mkFunc f first caps, K => K (.fn f (first.map ev) (caps.map ev))
  | .build zero parts, K => (match fillA ev zero parts with | some cs => K (.agg cs) | none => False)
  | .minmax mx x y, K => (match ev x, ev y with | .lit (.int k a), .lit (.int _ b) => K (.lit (.int k (if mx then (if b > a then b else a) else (if b < a then b else a)))) | _, _ => False)
  | _, _ => False

end Go.Abs

namespace Go.Abs
open Go Go.RowKit

def NoOwn (av : AV) : Prop := (∀ k es, av ≠ .sl (.own k) es) ∧ (∀ e, av ≠ .bp e) ∧ ∀ te b, av ≠ .buf te b
theorem NoOwn.strip (av : AV) : NoOwn av.strip := by
  refine ⟨fun k es h => ?_, fun e h => ?_, fun te b h => ?_⟩
  all_goals
    cases av <;> simp [AV.strip] at h
    rename_i c _
    cases c <;> simp at h
theorem NoOwn.spare {av : AV} (h : NoOwn av) {w g n s v} : SpareOk w g n s av v := by
  cases av <;> try exact trivial
  rename_i c es
  cases c <;> try exact trivial
  exact absurd rfl (h.1 _ _)

def VOk (P : Program) (w : World) (g : Gh) (n : Nat) (s : Sem Next) (K : AV → Prop) : Prop :=
  ∃ v av, s.run P w = .ok (.value v) w ∧ Rep w g n av v ∧ NoOwn av ∧ K av

theorem VOk.of {P w g n} {s : Sem Value} {v : Value} {av : AV} {K : AV → Prop} (h : s.run P w = .ok v w) (hr : Rep w g n av v) (hn : NoOwn av) (hk : K av) :
    VOk P w g n (do pure (.value (← s))) K :=
  ⟨v, av, by simp [h], hr, hn, hk⟩

theorem Rep.lit_iff {w g n x v} : Rep w g n (.lit x) v ↔ v = x := by simp [Rep]

theorem NoOwn.lit (v : Value) : NoOwn (.lit v) := ⟨(fun _ _ h => by cases h), (fun _ h => by cases h), (fun _ _ h => by cases h)⟩
theorem NoOwn.agg (v : List AV) : NoOwn (.agg v) := ⟨(fun _ _ h => by cases h), (fun _ h => by cases h), (fun _ _ h => by cases h)⟩
theorem NoOwn.cp (v : List AV) : NoOwn (.cp v) := ⟨(fun _ _ h => by cases h), (fun _ h => by cases h), (fun _ _ h => by cases h)⟩
theorem NoOwn.ref (a b : Nat) : NoOwn (.ref a b) := ⟨(fun _ _ h => by cases h), (fun _ h => by cases h), (fun _ _ h => by cases h)⟩
theorem NoOwn.fn (a b c) : NoOwn (.fn a b c) := ⟨(fun _ _ h => by cases h), (fun _ h => by cases h), (fun _ _ h => by cases h)⟩
theorem NoOwn.ifc (a b) : NoOwn (.ifc a b) := ⟨(fun _ _ h => by cases h), (fun _ h => by cases h), (fun _ _ h => by cases h)⟩
theorem NoOwn.unk (b) : NoOwn (.sl .unk b) := ⟨(fun _ _ h => by cases h), (fun _ h => by cases h), (fun _ _ h => by cases h)⟩

theorem run_und {P : Program} {t : TypeId} {d : TypeDesc} (h : P.underlying t = some d) (w : World) : (underlying t).run P w = .ok d w := by
  simp [underlying, h]
theorem run_inf {P : Program} {t : TypeId} {i : TypeInfo} (h : P.info? t = some i) (w : World) : (typeInfo t).run P w = .ok i w := by
  simp [typeInfo, h]
theorem run_siz {P : Program} {t : TypeId} {i : TypeInfo} (h : P.info? t = some i) (w : World) : (sizeOf t).run P w = .ok i.size w := by
  simp [sizeOf, run_inf h]

theorem aggN_spec {P : Program} {t : TypeId} {n : Option Nat} (h : aggN P t = some n) (w : World) :
    (isAgg t).run P w = .ok n.isSome w ∧ ∃ i, P.info? t = some i ∧ ∀ k, n = some k → i.size = k := by
  unfold aggN at h
  split at h <;> simp at h <;> subst h
  · rename_i h1 h2; simp [isAgg, run_und h1, h2]
  · rename_i h1 h2; simp [isAgg, run_und h1, h2]
  · rename_i d i hn1 hn2 h1 h2
    refine ⟨?_, _, h2, by simp⟩
    simp only [isAgg, Sem.run_bind, run_und h1, Result.andThen_ok]
    rfl

theorem string_eq (a b : ByteArray) : (a.toList == b.toList) = decide (a = b) := by
  have : a.toList = b.toList ↔ a = b := by
    constructor
    · intro h
      rw [ByteArray.toList_eq, ByteArray.toList_eq] at h
      exact ByteArray.ext (Array.ext' h)
    · rintro rfl; rfl
  by_cases h : a = b <;> simp [h, this]

theorem ibits_run {P : Program} {w : World} {op : BinOp} {k : IntKind} {a b : Int} (h : op = .and ∨ op = .or ∨ op = .xor ∨ op = .andNot) :
    (Op.intBits op k a b).run P w = .ok (.int k (ibits op k a b)) w := by
  rcases h with rfl | rfl | rfl | rfl <;> rfl

theorem binW_sound {P : Program} {w : World} {op : BinOp} {t : TypeId} {u v : Value} {K : Value → Prop} (h : binW op u v K) :
    ∃ r, (binOp op t u v).run P w = .ok r w ∧ K r ∧ (∀ x y : Operand, (eqGuard op t x y u v).run P w = .ok () w) := by
  unfold binW at h
  split at h
  · rename_i k a k' b
    have hg : ∀ x y : Operand, (eqGuard op t x y (.int k a) (.int k' b)).run P w = .ok () w := by
      intro x y; unfold eqGuard; split <;> simp
    cases op <;> simp only at h
    case shl => exact ⟨_, by simp [binOp, Op.shift, show ¬ b < 0 by omega], h.2, hg⟩
    case shr => exact ⟨_, by simp [binOp, Op.shift, show ¬ b < 0 by omega], h.2, hg⟩
    case quo => obtain ⟨rfl, h1, h2⟩ := h; exact ⟨_, by simp [binOp, Op.intDiv, h1], h2, hg⟩
    case rem => obtain ⟨rfl, h1, h2⟩ := h; exact ⟨_, by simp [binOp, Op.intDiv, h1], h2, hg⟩
    case and => obtain ⟨rfl, h2⟩ := h; exact ⟨_, by simp [binOp, ibits_run], h2, hg⟩
    case or => obtain ⟨rfl, h2⟩ := h; exact ⟨_, by simp [binOp, ibits_run], h2, hg⟩
    case xor => obtain ⟨rfl, h2⟩ := h; exact ⟨_, by simp [binOp, ibits_run], h2, hg⟩
    case andNot => obtain ⟨rfl, h2⟩ := h; exact ⟨_, by simp [binOp, ibits_run], h2, hg⟩
    case add => obtain ⟨rfl, h2⟩ := h; exact ⟨_, by simp [binOp, Op.intArith], h2, hg⟩
    case sub => obtain ⟨rfl, h2⟩ := h; exact ⟨_, by simp [binOp, Op.intArith], h2, hg⟩
    case mul => obtain ⟨rfl, h2⟩ := h; exact ⟨_, by simp [binOp, Op.intArith], h2, hg⟩
    case eql => obtain ⟨rfl, h2⟩ := h; exact ⟨_, by simp [binOp, Op.intCmp]; rfl, h2, hg⟩
    case neq => obtain ⟨rfl, h2⟩ := h; exact ⟨_, by simp [binOp, Op.intCmp, bne]; rfl, h2, hg⟩
    case lss => obtain ⟨rfl, h2⟩ := h; exact ⟨_, by simp [binOp, Op.intCmp], h2, hg⟩
    case leq => obtain ⟨rfl, h2⟩ := h; exact ⟨_, by simp [binOp, Op.intCmp], h2, hg⟩
    case gtr => obtain ⟨rfl, h2⟩ := h; exact ⟨_, by simp [binOp, Op.intCmp], h2, hg⟩
    case geq => obtain ⟨rfl, h2⟩ := h; exact ⟨_, by simp [binOp, Op.intCmp], h2, hg⟩
  · rename_i a b
    have hg : ∀ x y : Operand, (eqGuard op t x y (.string a) (.string b)).run P w = .ok () w := by
      intro x y; unfold eqGuard; split <;> simp
    cases op <;> simp only at h
    case add =>
      refine ⟨_, ?_, h.2, hg⟩
      simp only [binOp, Op.stringOp]
      rw [if_neg]
      · rfl
      · simp [IntKind.max, IntKind.signed, IntKind.bits]; omega
    case eql => exact ⟨_, by simp [binOp, Op.stringOp, string_eq], h, hg⟩
    case neq => exact ⟨_, by simp [binOp, Op.stringOp, string_eq], h, hg⟩
    case lss => exact ⟨_, by simp [binOp, Op.stringOp, sless], h, hg⟩
    case leq => exact ⟨_, by simp [binOp, Op.stringOp, string_eq, sless], h, hg⟩
    case gtr => exact ⟨_, by simp [binOp, Op.stringOp, string_eq, sless], h, hg⟩
    case geq => exact ⟨_, by simp [binOp, Op.stringOp, sless], h, hg⟩
    all_goals exact h.elim
  · exact h.elim

theorem equal_eq (t : TypeId) (x y : Value) : Op.equal t x y = Op.equalIn (9999 + 1) t x y := rfl

theorem wp_eqB {P : Program} {w : World} {t : TypeId} (ht : isBool P t = true) (a b : Bool) :
    (Op.equal t (.bool a) (.bool b)).run P w = .ok (decide (a = b)) w := by
  unfold isBool at ht
  split at ht
  · rename_i hu
    rw [equal_eq]
    generalize 9999 = d
    simp only [Op.equalIn, Sem.run_bind, run_und hu, Result.andThen_ok]
    cases a <;> cases b <;> rfl
  · cases ht

theorem nil0 {w g n x u a} (hx : nilness 0 x = some a) (hr : Rep w g n x u) : (a = true ∧ u = .pointer none) ∨ (a = false ∧ ∃ p, u = .pointer (some p)) := by
  unfold nilness at hx
  split at hx <;> simp at hx <;> subst hx <;> simp only [Rep] at hr <;> try contradiction
  · exact .inl ⟨rfl, hr⟩
  · exact .inr ⟨rfl, _, hr.1⟩
  · obtain ⟨_, _, _, h, _⟩ := hr; exact .inr ⟨rfl, _, h⟩
theorem nil1 {w g n x u a} (hx : nilness 1 x = some a) (hr : Rep w g n x u) : (a = true ∧ u = .nilFunc) ∨ (a = false ∧ ∃ f p q, u = .func f p q) := by
  unfold nilness at hx
  split at hx <;> simp at hx <;> subst hx <;> simp only [Rep] at hr <;> try contradiction
  · exact .inl ⟨rfl, hr⟩
  · obtain ⟨_, _, h, _⟩ := hr; exact .inr ⟨rfl, _, _, _, h⟩
theorem nil2 {w g n x u a} (hx : nilness 2 x = some a) (hr : Rep w g n x u) : (a = true ∧ u = .nilIface) ∨ (a = false ∧ ∃ t p, u = .iface t p) := by
  unfold nilness at hx
  split at hx <;> simp at hx <;> subst hx <;> simp only [Rep] at hr <;> try contradiction
  · exact .inl ⟨rfl, hr⟩
  · obtain ⟨_, h, _⟩ := hr; exact .inr ⟨rfl, _, _, h⟩
theorem nil3 {w g n x u a} (hx : nilness 3 x = some a) (hr : Rep w g n x u) : (a = true ∧ u = .map none) := by
  unfold nilness at hx
  split at hx <;> simp at hx <;> subst hx <;> simp only [Rep] at hr <;> try contradiction
  exact ⟨rfl, hr⟩

theorem eqN_sound {P : Program} {w : World} {g : Gh} {n : Nat} {t : TypeId} {c : Bool} {kind : Nat} (ht : nilKind P t c = some kind) {x y : AV} {u v : Value} {a b : Bool}
    (hx : nilness kind x = some a) (hy : nilness kind y = some b) (hab : a = true ∨ b = true) (hu : Rep w g n x u) (hv : Rep w g n y v) :
    (Op.equal t u v).run P w = .ok (a && b) w ∧ (u = .nilIface → v = .nilIface → c = true) ∧ (∀ cs, u ≠ .agg cs) := by
  rw [equal_eq]
  generalize 9999 = d
  unfold nilKind at ht
  split at ht <;> simp at ht
  · rename_i hd
    subst ht
    rcases nil0 hx hu with ⟨rfl, rfl⟩ | ⟨rfl, p, rfl⟩ <;> rcases nil0 hy hv with ⟨rfl, rfl⟩ | ⟨rfl, p, rfl⟩ <;> simp at hab <;>
      exact ⟨by simp [Op.equalIn, run_und hd], by simp, by simp⟩
  · rename_i hd
    subst ht
    rcases nil1 hx hu with ⟨rfl, rfl⟩ | ⟨rfl, _, _, _, rfl⟩ <;> rcases nil1 hy hv with ⟨rfl, rfl⟩ | ⟨rfl, _, _, _, rfl⟩ <;> simp at hab <;>
      exact ⟨by simp [Op.equalIn, run_und hd], by simp, by simp⟩
  · rename_i hd
    obtain ⟨hc, ht⟩ := ht
    subst ht
    rcases nil2 hx hu with ⟨rfl, rfl⟩ | ⟨rfl, _, _, rfl⟩ <;> rcases nil2 hy hv with ⟨rfl, rfl⟩ | ⟨rfl, _, _, rfl⟩ <;> simp at hab <;>
      exact ⟨by simp [Op.equalIn, run_und hd], by simp [hc], by simp⟩
  · rename_i hd
    subst ht
    obtain ⟨rfl, rfl⟩ := nil3 hx hu
    obtain ⟨rfl, rfl⟩ := nil3 hy hv
    exact ⟨by simp [Op.equalIn, run_und hd], by simp, by simp⟩

theorem ofCell_rep {w g n} (v : Value) : Rep w g n (ofCell v) v := by
  unfold ofCell
  split
  · simp only [Rep]; exact ⟨none, 0, 0, rfl, rfl, Nat.le_refl _, fun _ => rfl, fun _ => rfl, fun _ h => by cases h⟩
  · simp [Rep]

theorem Reps.ofCells {w g n} : ∀ (l : List Value), Reps w g n (l.map ofCell) l
  | [] => by simp [Reps]
  | v :: l => Reps.cons'.2 ⟨ofCell_rep v, Reps.ofCells l⟩

theorem ofCell_noOwn (v : Value) : NoOwn (ofCell v) := by
  unfold ofCell
  split
  · exact ⟨(fun _ _ h => by cases h), (fun _ h => by cases h), (fun _ _ h => by cases h)⟩
  · exact NoOwn.lit _

theorem ofConst_rep {w g n} (v : Value) : Rep w g n (ofConst v) v := by
  unfold ofConst
  split
  · simp only [Rep]; exact ⟨none, 0, 0, rfl, rfl, Nat.le_refl _, fun _ => rfl, fun _ => rfl, fun _ h => by cases h⟩
  · rename_i cs; simp only [Rep]; exact ⟨cs, rfl, Reps.ofCells _⟩
  · simp [Rep]

def ASt.ev (E : Env) (σ : ASt) : Operand → AV
  | .tmp t => (look σ.tmps t).strip
  | .const v => ofConst v
  | .global i => match E.gl i with | some cs => .cp cs | none => .any
  | .func f => .fn (.func f) [] []

theorem Reps.zero_later {w g n} {as vs} (h : Reps w g 0 as vs) : Reps w g n as vs :=
  Reps.later ⟨Nat.zero_le _, fun _ _ => rfl, fun _ _ _ h h' => ⟨h, h'⟩, fun _ _ h h' => ⟨h, h'⟩⟩ _ _ h

theorem ASt.ev_rep {E B σ a w g} (h : RA E B σ a w g) (x : Operand) : Rep w g σ.heap.length (σ.ev E x) (a.eval x) := by
  cases x with
  | tmp t => exact (h.tmps t).1.strip
  | const v => exact ofConst_rep v
  | func f => simp [ASt.ev, Act.eval, Rep, Reps]
  | global i =>
    simp only [ASt.ev, Act.eval]
    split
    · rename_i cs hcs
      obtain ⟨vs, h1, h2, _⟩ := h.gl i cs hcs
      simp only [Rep]
      exact ⟨i, 0, vs, rfl, h1, h2.zero_later⟩
    · simp [Rep]

theorem ASt.ev_noOwn {E σ} (x : Operand) : NoOwn (ASt.ev E σ x) := by
  cases x with
  | tmp t => exact NoOwn.strip _
  | const v =>
    simp only [ASt.ev, ofConst]
    split
    · exact ⟨(fun _ _ h => by cases h), (fun _ h => by cases h), (fun _ _ h => by cases h)⟩
    · exact NoOwn.agg _
    · exact NoOwn.lit _
  | func f => exact NoOwn.fn _ _ _
  | global i => simp only [ASt.ev]; split <;> exact ⟨(fun _ _ h => by cases h), (fun _ h => by cases h), (fun _ _ h => by cases h)⟩

end Go.Abs

namespace Go.Abs
open Go Go.RowKit

variable {P : Program} {w : World} {g : Gh} {h : List AObj} {ρ : Operand → Value} {ev : Operand → AV} {K : AV → Prop}

theorem loadCells_holds {b off : Nat} {vs : List Value} (hh : ∀ j u, vs[j]? = some u → w.cell? ⟨b, off + j, none⟩ = some u) :
    (loadCells ⟨b, off, none⟩ vs.length).run P w = .ok vs.toArray w :=
  run_loadCells_list w _ vs fun j v hv => by
    have := hh j v hv
    unfold Addr.add
    split
    · rename_i h0; subst h0; simpa using this
    · exact this

theorem cell_of_heap {b off : Nat} {vs : Array Value} {e : TypeId} {fr} (hb : w.heap[b]? = some (.cells vs e fr)) : w.cell? ⟨b, off, none⟩ = vs[off]? := by
  simp [World.cell?, hb]

theorem load_none {t : TypeId} {x : Value} {b off : Nat} {u : Value} (hn : aggN P t = some none) (hx : x = .pointer (some ⟨b, off, none⟩))
    (hc : w.cell? ⟨b, off, none⟩ = some u) : (Instr.loadAt t x).run P w = .ok u w := by
  subst hx
  simp [Instr.loadAt, Instr.sureAddr, loadVar, (aggN_spec hn w).1, hc]

theorem load_some {t : TypeId} {x : Value} {b off k : Nat} {vs : List Value} (hn : aggN P t = some (some k)) (hx : x = .pointer (some ⟨b, off, none⟩)) (hk : vs.length = k)
    (hc : ∀ j u, vs[j]? = some u → w.cell? ⟨b, off + j, none⟩ = some u) : (Instr.loadAt t x).run P w = .ok (.agg vs.toArray) w := by
  subst hx
  obtain ⟨h1, i, hi, h2⟩ := aggN_spec hn w
  have := loadCells_holds (P := P) hc
  simp [Instr.loadAt, Instr.sureAddr, loadVar, h1, run_siz hi, h2 k rfl, ← hk, this]

theorem addr_add (b off k : Nat) : (⟨b, off, none⟩ : Addr).add k = ⟨b, off + k, none⟩ := by
  unfold Addr.add
  split
  · rename_i h; subst h; rfl
  · rfl

theorem asIntOf_int (k : IntKind) (n : Int) : (asIntOf (.int k n)).run P w = .ok (k, n) w := rfl

theorem sound_load {n : Option Nat} {t : TypeId} {x : Operand} (hn : aggN P t = some n) (hev : Rep w g h.length (ev x) (ρ x)) (hh : HeapOk w g h)
    (hv : vop h ev (.load n x) K) : VOk P w g h.length (do pure (.value (← Instr.loadAt t (ρ x)))) K := by
  simp only [vop] at hv
  split at hv
  · rename_i id off hx
    rw [hx] at hev
    simp only [Rep] at hev
    obtain ⟨hp, _⟩ := hev
    split at hv
    · rename_i l hl
      obtain ⟨vs, e, hc⟩ := hh.cells id l hl
      cases n with
      | none =>
        simp only at hv
        split at hv
        · rename_i av hav
          obtain ⟨v, h1, h2, h3⟩ := hc.rep _ _ hav
          exact VOk.of (load_none hn hp (by rw [cell_of_heap hc.blk]; exact h1)) h2.strip (NoOwn.strip _) hv
        · exact hv.elim
      | some k =>
        simp only at hv
        obtain ⟨hle, hv⟩ := hv
        have hsz := hc.size
        have hlen : ((vs.toList.drop off).take k).length = k := by simp; omega
        refine VOk.of (load_some (vs := (vs.toList.drop off).take k) hn hp hlen ?_) ?_ (NoOwn.agg _) hv
        · intro j u hj
          rw [cell_of_heap hc.blk]
          rw [List.getElem?_take] at hj
          split at hj
          · rw [List.getElem?_drop] at hj; simpa using hj
          · cases hj
        · simp only [Rep]
          refine ⟨_, rfl, Reps.of_get (by simp; omega) fun i a v ha hvv => ?_⟩
          simp only [List.getElem?_map, List.getElem?_take, List.getElem?_drop] at ha hvv
          split at ha
          · rename_i hik
            rw [if_pos hik] at hvv
            cases hq : l[off + i]? with
            | none => rw [hq] at ha; simp at ha
            | some aa =>
              rw [hq] at ha
              simp at ha
              obtain ⟨v', h1, h2, _⟩ := hc.rep _ _ hq
              have : vs.toList[off + i]? = some v' := by simpa using h1
              rw [this] at hvv
              cases hvv
              rw [← ha]; exact h2.strip
          · simp at ha
    · exact hv.elim
  · rename_i cs hx
    rw [hx] at hev
    simp only [Rep] at hev
    obtain ⟨b, off, vs, hp, hH, hR⟩ := hev
    cases n with
    | none =>
      simp only at hv
      split at hv
      · rename_i av hav
        obtain ⟨v, h1, h2⟩ := hR.get _ _ hav
        exact VOk.of (load_none hn hp (by simpa using (hH 0 v h1).1)) h2.strip (NoOwn.strip _) hv
      · exact hv.elim
    | some k =>
      simp only at hv
      obtain ⟨hle, hv⟩ := hv
      have hl := hR.length
      refine VOk.of (load_some (vs := vs.take k) hn hp (by simp; omega) ?_) ?_ (NoOwn.agg _) hv
      · intro j u hj
        rw [List.getElem?_take] at hj
        split at hj
        · exact (hH j u hj).1
        · cases hj
      · simp only [Rep]; exact ⟨_, rfl, by simpa using hR.take k⟩
  · exact hv.elim

theorem drop_holds {b off : Nat} {vs : List Value} (hH : Holds w g b off vs) (k : Nat) : Holds w g b (off + k) (vs.drop k) := by
  intro j u hj
  rw [List.getElem?_drop] at hj
  have := hH _ u hj
  rwa [← Nat.add_assoc] at this

theorem sound_fieldAddr {s : TypeId} {x : Operand} {fields : Array Field} {f : Nat} {fd : Field} {i : TypeInfo} (hu : P.underlying s = some (.struct fields)) (hf : fields[f]? = some fd)
    (hi : P.info? fd.type = some i) (hz : i.size ≠ 0) (hev : Rep w g h.length (ev x) (ρ x)) (hv : vop h ev (.fieldAddr fd.offset x) K) :
    VOk P w g h.length (do pure (.value (← Instr.fieldAt s (ρ x) f))) K := by
  have key : ∀ b off, (Instr.fieldAt s (.pointer (some ⟨b, off, none⟩)) f).run P w = .ok (.pointer (some ⟨b, off + fd.offset, none⟩)) w := by
    intro b off
    simp only [Instr.fieldAt, Sem.run_bind, run_und hu, Result.andThen_ok, hf, Instr.sureAddr, Sem.run_pure, fieldPlace, run_siz hi, if_neg hz, addr_add]
  simp only [vop] at hv
  split at hv
  · rename_i id off hx
    rw [hx] at hev
    simp only [Rep] at hev
    obtain ⟨hp, hlt⟩ := hev
    rw [hp]
    exact VOk.of (key _ _) (by simp only [Rep]; exact ⟨trivial, hlt⟩) (NoOwn.ref _ _) hv
  · rename_i cs hx
    rw [hx] at hev
    simp only [Rep] at hev
    obtain ⟨b, off, vs, hp, hH, hR⟩ := hev
    rw [hp]
    exact VOk.of (key _ _) (by simp only [Rep]; exact ⟨b, _, _, rfl, drop_holds hH _, hR.drop _⟩) (NoOwn.cp _) hv
  · exact hv.elim

theorem part_none {t : TypeId} {cs : Array Value} {off : Nat} {v : Value} (hn : aggN P t = some none) (hc : cs[off]? = some v) : (part t cs off).run P w = .ok v w := by
  simp [part, (aggN_spec hn w).1, hc]
theorem part_some {t : TypeId} {cs : Array Value} {off k : Nat} (hn : aggN P t = some (some k)) : (part t cs off).run P w = .ok (.agg (cs.extract off (off + k))) w := by
  obtain ⟨h1, i, hi, h2⟩ := aggN_spec hn w
  simp [part, h1, run_siz hi, h2 k rfl]

theorem extract_toList (cs : Array Value) (off k : Nat) : (cs.extract off (off + k)).toList = (cs.toList.drop off).take k := by
  rw [Array.toList_extract, List.extract_eq_take_drop]; congr 1; omega

theorem sound_field {s : TypeId} {x : Operand} {fields : Array Field} {f : Nat} {fd : Field} {n : Option Nat} (hu : P.underlying s = some (.struct fields)) (hf : fields[f]? = some fd)
    (hn : aggN P fd.type = some n) (hev : Rep w g h.length (ev x) (ρ x)) (hv : vop h ev (.field fd.offset n x) K) :
    VOk P w g h.length (do pure (.value (← Instr.field s (ρ x) f))) K := by
  simp only [vop] at hv
  split at hv
  · rename_i cs hx
    rw [hx] at hev
    simp only [Rep] at hev
    obtain ⟨vs, hp, hR⟩ := hev
    rw [hp]
    cases n with
    | none =>
      simp only at hv
      split at hv
      · rename_i av hav
        obtain ⟨v, h1, h2⟩ := hR.get _ _ hav
        refine VOk.of (v := v) ?_ h2.strip (NoOwn.strip _) hv
        simp only [Instr.field, Sem.run_bind, run_und hu, Result.andThen_ok, hf, asAgg, Sem.run_pure]
        exact part_none hn (by simpa using h1)
      · exact hv.elim
    | some k =>
      simp only at hv
      refine VOk.of (v := .agg (vs.extract fd.offset (fd.offset + k))) ?_ ?_ (NoOwn.agg _) hv
      · simp only [Instr.field, Sem.run_bind, run_und hu, Result.andThen_ok, hf, asAgg, Sem.run_pure]
        exact part_some hn
      · simp only [Rep]; exact ⟨_, rfl, by rw [extract_toList]; exact (hR.drop _).take _⟩
  · exact hv.elim

theorem sound_indexAddr {t e : TypeId} {x ix : Operand} {inf : TypeInfo} (hu : P.underlying t = some (.slice e)) (hi : P.info? e = some inf)
    (hev : ∀ x, Rep w g h.length (ev x) (ρ x)) (hv : vop h ev (.indexAddr inf.size x ix) K) :
    VOk P w g h.length (do pure (.value (← Instr.indexAt t (ρ x) (ρ ix)))) K := by
  have key : ∀ (b off len cap : Nat) (k : IntKind) (j : Int), 0 ≤ j → j < len → (Instr.indexAt t (.slice (some ⟨b, off, none⟩) len cap) (.int k j)).run P w = .ok (.pointer (some ⟨b, off + j.toNat * inf.size, none⟩)) w := by
    intro b off len cap k j h0 h1
    simp only [Instr.indexAt, Sem.run_bind, asIntOf_int, Result.andThen_ok, run_und hu, Sem.run_pure]
    rw [if_pos ⟨h0, h1⟩]
    simp [run_siz hi, addr_add]
  have hx := hev x
  have hy := hev ix
  simp only [vop] at hv
  split at hv
  · rename_i c es k j e1 e2
    rw [e1] at hx
    rw [e2] at hy
    simp only [Rep] at hx hy
    obtain ⟨base, len, cap, hp, hlen, hcap, _, hnone, hsome⟩ := hx
    obtain ⟨⟨h0, h1⟩, hv⟩ := hv
    have hlt : j.toNat < es.length := by omega
    obtain ⟨hs, hk, hv⟩ := hv es[j.toNat] (by simp [hlt])
    cases base with
    | none => exfalso; have := hnone rfl; omega
    | some a =>
      obtain ⟨hspot, k', hels⟩ := hsome a rfl
      obtain ⟨v, hr, hsz, hH⟩ := hels.get j.toNat es[j.toNat] (by simp [hlt])
      have hk' : k' = inf.size := by
        have := (hr.cells hs).length
        simp at this; omega
      subst hk'
      obtain ⟨b, off, spot⟩ := a
      simp only at hspot hH
      have hspot := hspot (by omega)
      subst hspot
      rw [hp, hy]
      refine VOk.of (key b off len cap k j h0 (by omega)) ?_ (NoOwn.cp _) hv
      simp only [Rep]
      exact ⟨b, _, _, rfl, hH, hr.cells hs⟩
  · rename_i id off len cap k j e1 e2
    rw [e1] at hx
    rw [e2] at hy
    simp only [Rep] at hx hy
    obtain ⟨hp, hlt, _⟩ := hx
    obtain ⟨⟨h0, h1⟩, hv⟩ := hv
    rw [hp, hy]
    exact VOk.of (key _ _ _ _ _ _ h0 h1) (by simp only [Rep]; exact ⟨trivial, hlt⟩) (NoOwn.ref _ _) hv
  · exact hv.elim

theorem sound_indexAddrArr {t e : TypeId} {len : Nat} {x ix : Operand} {inf : TypeInfo} (hu : P.underlying t = some (.array len e)) (hi : P.info? e = some inf)
    (hev : ∀ x, Rep w g h.length (ev x) (ρ x)) (hv : vop h ev (.indexAddrArr len inf.size x ix) K) :
    VOk P w g h.length (do pure (.value (← Instr.indexAt t (ρ x) (ρ ix)))) K := by
  have key : ∀ (b off : Nat) (k : IntKind) (j : Int), 0 ≤ j → j < len → (Instr.indexAt t (.pointer (some ⟨b, off, none⟩)) (.int k j)).run P w = .ok (.pointer (some ⟨b, off + j.toNat * inf.size, none⟩)) w := by
    intro b off k j h0 h1
    simp only [Instr.indexAt, Sem.run_bind, asIntOf_int, Result.andThen_ok, run_und hu, Sem.run_pure, Instr.sureAddr]
    rw [if_pos ⟨h0, h1⟩]
    simp [run_siz hi, addr_add]
  have hx := hev x
  have hy := hev ix
  simp only [vop] at hv
  split at hv
  · rename_i id o k j e1 e2
    rw [e1] at hx
    rw [e2] at hy
    simp only [Rep] at hx hy
    obtain ⟨hp, hlt⟩ := hx
    obtain ⟨⟨h0, h1⟩, hv⟩ := hv
    rw [hp, hy]
    exact VOk.of (key _ _ _ _ h0 h1) (by simp only [Rep]; exact ⟨trivial, hlt⟩) (NoOwn.ref _ _) hv
  · rename_i cs k j e1 e2
    rw [e1] at hx
    rw [e2] at hy
    simp only [Rep] at hx hy
    obtain ⟨b, off, vs, hp, hH, hR⟩ := hx
    obtain ⟨⟨h0, h1⟩, hv⟩ := hv
    rw [hp, hy]
    exact VOk.of (key _ _ _ _ h0 h1) (by simp only [Rep]; exact ⟨b, _, _, rfl, drop_holds hH _, hR.drop _⟩) (NoOwn.cp _) hv
  · exact hv.elim

theorem sound_indexS {t : TypeId} {x ix : Operand} (hu : P.underlying t = some .string)
    (hev : ∀ x, Rep w g h.length (ev x) (ρ x)) (hv : vop h ev (.indexS x ix) K) :
    VOk P w g h.length (do pure (.value (← Instr.index t (ρ x) (ρ ix)))) K := by
  have hx := hev x
  have hy := hev ix
  simp only [vop] at hv
  split at hv
  · rename_i s k j e1 e2
    rw [e1, Rep.lit_iff] at hx
    rw [e2, Rep.lit_iff] at hy
    obtain ⟨⟨h0, h1⟩, hv⟩ := hv
    have hlt : j.toNat < s.size := by omega
    have hs : s[j.toNat]? = some s[j.toNat] := by simp [hlt]
    have hv' := hv _ hs
    rw [hx, hy]
    refine VOk.of ?_ (Rep.lit_iff.2 rfl) (NoOwn.lit _) hv'
    simp [Instr.index, asIntOf_int, run_und hu, h0, hs]
  · exact hv.elim

theorem sound_indexArr {t e : TypeId} {len : Nat} {n : Option Nat} {x ix : Operand} {inf : TypeInfo} (hu : P.underlying t = some (.array len e)) (hi : P.info? e = some inf) (hn : aggN P e = some n)
    (hev : ∀ x, Rep w g h.length (ev x) (ρ x)) (hv : vop h ev (.indexArr len inf.size n x ix) K) :
    VOk P w g h.length (do pure (.value (← Instr.index t (ρ x) (ρ ix)))) K := by
  have hx := hev x
  have hy := hev ix
  simp only [vop] at hv
  split at hv
  · rename_i cs k j e1 e2
    rw [e1] at hx
    rw [e2, Rep.lit_iff] at hy
    simp only [Rep] at hx
    obtain ⟨vs, hp, hR⟩ := hx
    obtain ⟨⟨h0, h1⟩, hv, hle, hk0⟩ := hv
    rw [hp, hy]
    have hrun : ∀ v, (part e vs (j.toNat * inf.size)).run P w = .ok v w → (Instr.index t (.agg vs) (.int k j)).run P w = .ok v w := by
      intro v hpv
      simp only [Instr.index, Sem.run_bind, asIntOf_int, Result.andThen_ok, run_und hu]
      rw [if_pos ⟨h0, h1⟩]
      simp [run_siz hi, hpv]
    cases n with
    | none =>
      simp only at hv
      have hlt : j.toNat * inf.size < cs.length := by
        have : j.toNat < len := by omega
        calc j.toNat * inf.size < len * inf.size := Nat.mul_lt_mul_of_pos_right this hk0
          _ ≤ cs.length := hle
      obtain ⟨v, h3, h4⟩ := hR.get (j.toNat * inf.size) cs[j.toNat * inf.size] (by simp [hlt])
      exact VOk.of (hrun v (part_none hn (by simpa using h3))) h4.strip (NoOwn.strip _) (hv _ (by simp [hlt]))
    | some m =>
      simp only at hv
      refine VOk.of (hrun _ (part_some hn)) ?_ (NoOwn.agg _) hv
      simp only [Rep]; exact ⟨_, rfl, by rw [extract_toList]; exact (hR.drop _).take _⟩
  · exact hv.elim

def intsOf : List AV → Option (List Int)
  | [] => some []
  | .lit (.int .u8 n) :: l => (intsOf l).map (n :: ·)
  | _ => none

theorem bites_ints : ∀ (es : List AV) (l : List UInt8), bitesOf es = some l → ∃ ns, intsOf es = some ns ∧ l = ns.map fun n => UInt8.ofNat n.toNat := by
  intro es
  induction es with
  | nil => intro l hl; simp [bitesOf] at hl; exact ⟨[], rfl, by simp [hl]⟩
  | cons e es ih =>
    intro l hl
    unfold bitesOf at hl
    split at hl
    · simp at *
    · rename_i n l' heq
      cases heq
      simp at hl
      obtain ⟨l'', hl'', rfl⟩ := hl
      obtain ⟨ns, h1, rfl⟩ := ih _ hl''
      exact ⟨n :: ns, by simp [intsOf, h1], by simp⟩
    · cases hl

theorem ints_get : ∀ (es : List AV) (ns : List Int), intsOf es = some ns → ns.length = es.length ∧ ∀ (i : Nat) (n : Int), ns[i]? = some n → es[i]? = some (.lit (.int .u8 n)) := by
  intro es
  induction es with
  | nil => intro ns hl; simp [intsOf] at hl; subst hl; simp
  | cons e es ih =>
    intro ns hl
    unfold intsOf at hl
    split at hl
    · simp at *
    · rename_i n l' heq
      cases heq
      simp at hl
      obtain ⟨ns', hl'', rfl⟩ := hl
      obtain ⟨h1, h2⟩ := ih _ hl''
      refine ⟨by simp [h1], fun i m hm => ?_⟩
      cases i with
      | zero => simp at hm; subst hm; simp
      | succ i => simp at hm ⊢; exact h2 i m hm
    · cases hl

theorem bites_load {es : List AV} {ns : List Int} {b off k : Nat} (hn : intsOf es = some ns) (he : Els w g h.length es b off k) :
    (loadCells ⟨b, off, none⟩ es.length).run P w = .ok (ns.map (Value.int .u8)).toArray w := by
  obtain ⟨h1, h2⟩ := ints_get es ns hn
  have := loadCells_holds (P := P) (w := w) (b := b) (off := off) (vs := ns.map (Value.int .u8)) ?_
  · simpa [h1] using this
  · intro j u hj
    simp at hj
    obtain ⟨n, hn', rfl⟩ := hj
    obtain ⟨v, h3, h4, h5⟩ := he.get j _ (h2 j n hn')
    rw [Rep.lit_iff] at h3
    subst h3
    simp [Value.cells] at h4
    subst h4
    have := (h5 0 (.int .u8 n) (by simp [Value.cells])).1
    simpa using this

theorem foldl_push (l : List UInt8) : ∀ (s : ByteArray), l.foldl (fun r c => r.push c) s = ⟨s.data ++ l.toArray⟩ := by
  induction l with
  | nil => intro s; simp
  | cons c l ih =>
    intro s
    simp only [List.foldl_cons, ih]
    congr 1
    simp [ByteArray.push]

theorem sound_toStr {src dst e : TypeId} {x : Operand} (h1 : P.underlying src = some (.slice e)) (h2 : P.underlying dst = some .string) (h3 : P.underlying e = some (.int .u8))
    (hev : Rep w g h.length (ev x) (ρ x)) (hv : vop h ev (.toStr x) K) : VOk P w g h.length (do pure (.value (← convert src dst (ρ x)))) K := by
  simp only [vop] at hv
  split at hv
  · rename_i c es e1
    split at hv
    · rename_i l hl
      rw [e1] at hev
      simp only [Rep] at hev
      obtain ⟨base, len, cap, hp, hlen, hcap, _, hnone, hsome⟩ := hev
      rw [hp]
      obtain ⟨ns, hns, rfl⟩ := bites_ints es l hl
      cases base with
      | none =>
        have hes : es = [] := by have := hnone rfl; exact List.length_eq_zero_iff.1 (by omega)
        subst hes
        simp [intsOf] at hns
        subst hns
        refine VOk.of ?_ (Rep.lit_iff.2 rfl) (NoOwn.lit _) hv
        simp only [convert, Sem.run_bind, run_und h1, run_und h2, run_und h3, Result.andThen_ok, Conv.bytesToString, Sem.run_pure]
        rfl
      | some a =>
        obtain ⟨hspot, k, hels⟩ := hsome a rfl
        obtain ⟨b, off, spot⟩ := a
        simp only at hspot hels
        refine VOk.of ?_ (Rep.lit_iff.2 rfl) (NoOwn.lit _) hv
        have hl : (loadCells ⟨b, off, spot⟩ es.length).run P w = .ok (ns.map (Value.int .u8)).toArray w := by
          cases es with
          | nil => simp [intsOf] at hns; subst hns; rfl
          | cons x es' =>
            have hspot := hspot (by simp at hlen; omega)
            subst hspot
            exact bites_load (P := P) hns hels
        rw [run_convert_bytes_string w src dst e _ _ _ h1 h3 h2]
        rw [run_bytesToString w _ len cap ns (by rw [← hlen]; exact hl)]
        have := foldl_push (ns.map fun n => UInt8.ofNat n.toNat) ByteArray.empty
        rw [List.foldl_map] at this
        rw [this]
        congr 3
        simp
    · exact hv.elim
  · exact hv.elim

theorem sound_conv {src dst : TypeId} {k k' : IntKind} {x : Operand} (h1 : P.underlying src = some (.int k')) (h2 : P.underlying dst = some (.int k))
    (hev : Rep w g h.length (ev x) (ρ x)) (hv : vop h ev (.conv k x) K) : VOk P w g h.length (do pure (.value (← convert src dst (ρ x)))) K := by
  simp only [vop] at hv
  split at hv
  · rename_i k2 n e1
    rw [e1, Rep.lit_iff] at hev
    rw [hev]
    exact VOk.of (by simp [convert, run_und h1, run_und h2, Conv.intToInt]) (Rep.lit_iff.2 rfl) (NoOwn.lit _) hv
  · exact hv.elim

theorem sound_convS {src dst : TypeId} {x : Operand} (h1 : P.underlying src = some .string) (h2 : P.underlying dst = some .string)
    (hev : Rep w g h.length (ev x) (ρ x)) (hv : vop h ev (.convS x) K) : VOk P w g h.length (do pure (.value (← convert src dst (ρ x)))) K := by
  simp only [vop] at hv
  split at hv
  · rename_i s e1
    rw [e1, Rep.lit_iff] at hev
    rw [hev]
    exact VOk.of (by simp [convert, run_und h1, run_und h2]) (Rep.lit_iff.2 rfl) (NoOwn.lit _) hv
  · exact hv.elim

theorem sound_bin {op : BinOp} {t ty : TypeId} {x y : Operand} {pos} {after} {guard} {dst} {type}
    (hev : ∀ x, Rep w g h.length (ev x) (ρ x)) (hv : vop h ev (.bin op x y) K) :
    VOk P w g h.length (execOp ρ { dst, op := .binOp op t x y ty, type, pos, after, guard }) K := by
  have hx := hev x
  have hy := hev y
  simp only [vop] at hv
  split at hv
  · rename_i u v e1 e2
    rw [e1, Rep.lit_iff] at hx
    rw [e2, Rep.lit_iff] at hy
    obtain ⟨r, h1, h2, h3⟩ := binW_sound (P := P) (w := w) (t := t) hv
    refine ⟨r, .lit r, ?_, Rep.lit_iff.2 rfl, NoOwn.lit _, h2⟩
    simp [execOp, hx, hy, h1, h3]
  · exact hv.elim

theorem sound_un {op : UnOp} {x : Operand} (hev : ∀ x, Rep w g h.length (ev x) (ρ x)) (hv : vop h ev (.un op x) K) :
    VOk P w g h.length (do pure (.value (← Op.unary op (ρ x)))) K := by
  have hx := hev x
  simp only [vop] at hv
  split at hv
  · rename_i b e1; rw [e1, Rep.lit_iff] at hx; rw [hx]
    exact VOk.of (by simp [Op.unary]) (Rep.lit_iff.2 rfl) (NoOwn.lit _) hv
  · rename_i k n e1; rw [e1, Rep.lit_iff] at hx; rw [hx]
    exact VOk.of (by simp [Op.unary, Op.intArith]) (Rep.lit_iff.2 rfl) (NoOwn.lit _) hv
  · rename_i k n e1; rw [e1, Rep.lit_iff] at hx; rw [hx]
    exact VOk.of (by simp [Op.unary, ibits_run]) (Rep.lit_iff.2 rfl) (NoOwn.lit _) hv
  · exact hv.elim

end Go.Abs
