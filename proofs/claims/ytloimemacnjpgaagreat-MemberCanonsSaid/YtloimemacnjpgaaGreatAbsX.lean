/- Contracts of the kit's shelf, as contracts here. -/
import Derived.Test.YtloimemacnjpgaaGreatAbsW
import Derived.Below
set_option linter.all false
namespace Go.Abs
open Go Go.RowKit

theorem Below.grown {w w' : World} {g : Gh} {n : Nat} (h : Below w.heap.size w w') (hg : GOk w g) : Grown w g n w' g where
  size := h.size
  os := h.os
  output := h.output
  tape := h.tape
  blk := h.block
  own := fun _ _ _ => rfl
  loc := fun _ _ => rfl
  gok := fun b off ho => Nat.lt_of_lt_of_le (hg b off ho) h.size

theorem ev_of_kit {E : Env} {f : FuncId} {fn : Func} {c : Code} {args : List AV} {h : List AObj} {v : AV} (hf : E.P.funcs[f]? = some fn) (hn : (fn.name == "runtime.NumGoroutine") = false) (hb : fn.body = some c)
    (H : ∀ w g vs, GOk w g → GlOk E w g → argsOk w g h.length args vs → Calls E.P f vs w fun e w' => ∃ x, e = .returned x ∧ Below w.heap.size w w' ∧ ∀ g', Rep w' g' h.length v x) : EvR E f args h v := by
  intro w g vs hg hgl hh ha
  refine .inl ⟨?_, ?_⟩
  · simp only [callFunc, Sem.run_bind, run_program, Result.andThen_ok, hf, hn, hb]
    rfl
  · refine (H w g vs hg hgl ha).mono ?_
    rintro e w' ⟨x, rfl, hbel, hr⟩
    have hgr := Below.grown (n := h.length) hbel hg
    refine ⟨.ret v, h, g, ⟨rfl, rfl⟩, ⟨x, rfl, hr g⟩, hgr.gok, hgl.later (hgr.later (Nat.le_refl _)).to_zero, ?_, hgr.stable, Nat.le_refl _⟩
    exact hgr.heapOk hh (List.prefix_refl _) (fun id l hid hl => by rw [List.getElem?_eq_none hid] at hl; cases hl)

end Go.Abs

namespace Go.Abs
open Go Go.RowKit

def Gh.all (W : World) : Gh := { own := fun b _ => if b < W.heap.size then .com else .none, loc := fun _ => 0 }

theorem gok_all (W : World) : GOk W (Gh.all W) := fun b off h => by
  simp only [Gh.all] at h
  split at h
  · assumption
  · exact absurd rfl h

theorem holds_all {W : World} {b off : Nat} {vs : List Value} (h : ∀ j u, vs[j]? = some u → W.cell? ⟨b, off + j, none⟩ = some u) : Holds W (Gh.all W) b off vs := fun j u hj => by
  have hc := h j u hj
  refine ⟨hc, ?_⟩
  have hb := World.block_lt_of_cell? W _ hc
  simp only [Gh.all]
  rw [if_pos hb]

theorem heapOk_nil (w : World) (g : Gh) : HeapOk w g [] := fun id l h => by simp at h

theorem EvR.calls {E : Env} {f : FuncId} {fn : Func} {c : Code} {args : List AV} {v : AV} (hf : E.P.funcs[f]? = some fn) (hn : (fn.name == "runtime.NumGoroutine") = false) (hb : fn.body = some c)
    (hev : EvR E f args [] v) {W : World} {vs : Array Value} (hgl : GlOk E W (Gh.all W)) (ha : argsOk W (Gh.all W) 0 args vs) :
    Calls E.P f vs W fun e w' => (∃ x g', e = .returned x ∧ Rep w' g' 0 v x) ∧ Below W.heap.size W w' := by
  rcases hev W (Gh.all W) vs (gok_all W) hgl (heapOk_nil _ _) ha with ⟨_, h⟩ | ⟨x, w', h1, _⟩
  · refine h.mono ?_
    rintro e w' ⟨r, h', g', ⟨rfl, rfl⟩, ⟨x, rfl, hr⟩, _, _, _, hst, _⟩
    refine ⟨⟨x, g', rfl, hr⟩, hst.os, hst.tape, hst.output, hst.size, fun b hbl => hst.blk b hbl fun off => ?_⟩
    right
    simp only [Gh.all]
    rw [if_pos hbl]
  · exfalso
    have h2 : (callFunc f vs).run E.P W = .ok (.enter f vs) W := by
      simp only [callFunc, Sem.run_bind, run_program, Result.andThen_ok, hf, hn, hb]
      rfl
    rw [h2] at h1
    cases h1

end Go.Abs
