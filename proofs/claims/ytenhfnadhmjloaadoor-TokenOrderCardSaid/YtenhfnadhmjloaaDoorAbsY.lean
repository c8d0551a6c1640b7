/- From a contract to a call in a given world. -/
import Derived.Test.YtenhfnadhmjloaaDoorAbsX
set_option linter.all false
namespace Go.Abs
open Go Go.RowKit

/-- The ghost of a world that nobody writes any more. -/
def Gh.all (W : World) : Gh := { own := fun b _ => if b < W.heap.size then .com else .none, loc := fun _ => 0 }

theorem gok_all (W : World) : GOk W (Gh.all W) := fun b off h => by
  simp only [Gh.all] at h
  split at h
  · assumption
  · exact absurd rfl h

theorem holds_all {W : World} {b off : Nat} {vs : List Value} (h : ∀ j u, vs[j]? = some u → W.cell? ⟨b, off + j, none⟩ = some u) : Holds W (Gh.all W) b off vs := fun j u hj => by
  have hc := h j u hj
  refine ⟨hc, ?_⟩
  have hb := World.block_lt_of_cell? W _ hc
  simp only [Gh.all]
  rw [if_pos hb]

theorem heapOk_nil (w : World) (g : Gh) : HeapOk w g [] := fun id l h => by simp at h

/-- A function that answers so, called in a world: it returns that, and what was there is as it was. -/
theorem EvR.calls {E : Env} {f : FuncId} {fn : Func} {c : Code} {args : List AV} {v : AV} (hf : E.P.funcs[f]? = some fn) (hn : (fn.name == "runtime.NumGoroutine") = false) (hb : fn.body = some c)
    (hev : EvR E f args [] v) {W : World} {vs : Array Value} (hgl : GlOk E W (Gh.all W)) (ha : argsOk W (Gh.all W) 0 args vs) :
    Calls E.P f vs W fun e w' => (∃ x g', e = .returned x ∧ Rep w' g' 0 v x) ∧ Below W.heap.size W w' := by
  rcases hev W (Gh.all W) vs (gok_all W) hgl (heapOk_nil _ _) ha with ⟨_, h⟩ | ⟨x, w', h1, _⟩
  · refine h.mono ?_
    rintro e w' ⟨r, h', g', ⟨rfl, rfl⟩, ⟨x, rfl, hr⟩, _, _, _, hst, _⟩
    refine ⟨⟨x, g', rfl, hr⟩, hst.os, hst.tape, hst.output, hst.size, fun b hbl => hst.blk b hbl fun off => ?_⟩
    right
    simp only [Gh.all]
    rw [if_pos hbl]
  · exfalso
    have h2 : (callFunc f vs).run E.P W = .ok (.enter f vs) W := by
      simp only [callFunc, Sem.run_bind, run_program, Result.andThen_ok, hf, hn, hb]
      rfl
    rw [h2] at h1
    cases h1

theorem argsOk_one {W : World} {g : Gh} {x : Value} : argsOk W g 0 [.lit x] #[x] := by
  refine ⟨rfl, fun i av hi => ?_⟩
  match i, hi with
  | 0, hi => cases hi; exact ⟨x, rfl, Rep.lit_iff.2 rfl, trivial⟩

end Go.Abs
