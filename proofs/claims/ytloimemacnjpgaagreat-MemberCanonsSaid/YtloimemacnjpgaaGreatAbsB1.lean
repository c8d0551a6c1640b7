/- A builder that is part of another record: what append does to its text; what its methods turn. -/
import Derived.Test.YtloimemacnjpgaaGreatAbsX
import Derived.Lib.FrozenHead2
import Derived.Lib.AppendStr
set_option linter.all false
namespace Go.Abs
open Go Go.RowKit

def Moved (w : World) (v v' : Value) : Prop := v'.ownBlock = v.ownBlock ∨ ∃ k, v'.ownBlock = some k ∧ w.heap.size ≤ k

section
variable {P : Program} (w : World)

end

structure Bld (w : World) (b : Nat) (cs : Array Value) (e te : TypeId) (v : Value) (l : List UInt8) : Prop where
  blk : w.heap[b]? = some (.cells cs e (0, 0))
  c0 : cs[0]? = some (.pointer none) ∨ cs[0]? = some (.pointer (some ⟨b, 0, none⟩))
  c1 : cs[1]? = some v
  own : w.ownsRowF 0 te 1 v l.length (Lib.byteCells l)
  ne : v.ownBlock ≠ some b

structure BldStep (w : World) (b : Nat) (cs : Array Value) (v : Value) (w' : World) (cs' : Array Value) (v' : Value) : Prop where
  size : cs'.size = cs.size
  rest : ∀ j, 2 ≤ j → cs'[j]? = cs[j]?
  moved : Moved w v v'
  os : w'.os = w.os
  output : w'.output = w.output
  tape : w'.tape = w.tape
  heap : w.heap.size ≤ w'.heap.size
  others : ∀ k, k < w.heap.size → k ≠ b → some k ≠ v.ownBlock → w'.heap[k]? = w.heap[k]?

theorem Bld.lt {w : World} {b : Nat} {cs : Array Value} {e te : TypeId} {v : Value} {l : List UInt8} (h : Bld w b cs e te v l) : b < w.heap.size := lt_of_heap h.blk

theorem Bld.read {w w' : World} {b : Nat} {cs : Array Value} {e te : TypeId} {v : Value} {l : List UInt8} (h : Bld w b cs e te v l) (ho1 : w'.os = w.os) (ho2 : w'.output = w.output) (ho3 : w'.tape = w.tape) (hsz : w.heap.size ≤ w'.heap.size)
    (hoth : ∀ k, k < w.heap.size → some k ≠ v.ownBlock → w'.heap[k]? = w.heap[k]?) (hown : w'.ownsRowF 0 te 1 v l.length (Lib.byteCells l)) :
    Bld w' b cs e te v l ∧ BldStep w b cs v w' cs v :=
  ⟨⟨by rw [hoth b h.lt (fun e => h.ne e.symm)]; exact h.blk, h.c0, h.c1, hown, h.ne⟩, rfl, fun _ _ => rfl, .inl rfl, ho1, ho2, ho3, hsz, fun k hk _ hv => hoth k hk hv⟩

theorem args_get {w : World} {g : Gh} {n : Nat} {args : List AV} {vs : Array Value} (h : argsOk w g n args vs) : Reps w g n args vs.toList :=
  Reps.of_get (by simpa using h.1) fun i a v ha hv => by
    obtain ⟨u, h1, h2, _⟩ := h.2 i a ha
    rw [Array.getElem?_toList] at hv
    rw [h1] at hv; cases hv; exact h2

end Go.Abs
