/- Contracts of the kit's shelf, as contracts here. -/
import Derived.Test.YtgbedffflggenaaDoorAbsW
import Derived.Below
set_option linter.all false
namespace Go.Abs
open Go Go.RowKit

theorem Below.grown {w w' : World} {g : Gh} {n : Nat} (h : Below w.heap.size w w') (hg : GOk w g) : Grown w g n w' g where
  size := h.size
  os := h.os
  output := h.output
  tape := h.tape
  blk := h.block
  own := fun _ _ _ => rfl
  loc := fun _ _ => rfl
  gok := fun b off ho => Nat.lt_of_lt_of_le (hg b off ho) h.size

/-- A function of the shelf that hands back a value, and lays new rows alone. -/
theorem ev_of_kit {E : Env} {f : FuncId} {fn : Func} {c : Code} {args : List AV} {h : List AObj} {v : AV} (hf : E.P.funcs[f]? = some fn) (hn : (fn.name == "runtime.NumGoroutine") = false) (hb : fn.body = some c)
    (H : ∀ w g vs, GOk w g → GlOk E w g → argsOk w g h.length args vs → Calls E.P f vs w fun e w' => ∃ x, e = .returned x ∧ Below w.heap.size w w' ∧ ∀ g', Rep w' g' h.length v x) : EvR E f args h v := by
  intro w g vs hg hgl hh ha
  refine .inl ⟨?_, ?_⟩
  · simp only [callFunc, Sem.run_bind, run_program, Result.andThen_ok, hf, hn, hb]
    rfl
  · refine (H w g vs hg hgl ha).mono ?_
    rintro e w' ⟨x, rfl, hbel, hr⟩
    have hgr := Below.grown (n := h.length) hbel hg
    refine ⟨.ret v, h, g, ⟨rfl, rfl⟩, ⟨x, rfl, hr g⟩, hgr.gok, hgl.later (hgr.later (Nat.le_refl _)).to_zero, ?_, hgr.stable, Nat.le_refl _⟩
    exact hgr.heapOk hh (List.prefix_refl _) (fun id l hid hl => by rw [List.getElem?_eq_none hid] at hl; cases hl)

/-- The single argument, a literal. -/
theorem args_lit {w : World} {g : Gh} {n : Nat} {x : Value} {vs : Array Value} (h : argsOk w g n [.lit x] vs) : vs = #[x] := by
  obtain ⟨h1, h2⟩ := h
  obtain ⟨v, h3, h4, _⟩ := h2 0 (.lit x) rfl
  rw [Rep.lit_iff] at h4
  subst h4
  apply Array.ext
  · simpa using h1
  · intro i hi1 hi2
    simp at hi2
    subst hi2
    rw [Array.getElem?_eq_some_iff] at h3
    simpa using h3.2

theorem gl_cell {E : Env} {w : World} {g : Gh} {i : Nat} {av : AV} (h : GlOk E w g) (hi : E.gl i = some [av]) : ∃ v, w.cell? ⟨i, 0, none⟩ = some v ∧ Rep w g 0 av v := by
  obtain ⟨vs, h1, h2, _⟩ := h i _ hi
  obtain ⟨v, rest, rfl, h3, _⟩ := Reps.cons.1 h2
  exact ⟨v, by have := (h1 0 v rfl).1; simpa using this, h3⟩

end Go.Abs

namespace Go.Abs
open Go Go.RowKit

/-- The ghost of a world that nobody writes any more. -/
def Gh.all (W : World) : Gh := { own := fun b _ => if b < W.heap.size then .com else .none, loc := fun _ => 0 }

theorem gok_all (W : World) : GOk W (Gh.all W) := fun b off h => by
  simp only [Gh.all] at h
  split at h
  · assumption
  · exact absurd rfl h

theorem holds_all {W : World} {b off : Nat} {vs : List Value} (h : ∀ j u, vs[j]? = some u → W.cell? ⟨b, off + j, none⟩ = some u) : Holds W (Gh.all W) b off vs := fun j u hj => by
  have hc := h j u hj
  refine ⟨hc, ?_⟩
  have hb := World.block_lt_of_cell? W _ hc
  simp only [Gh.all]
  rw [if_pos hb]

theorem heapOk_nil (w : World) (g : Gh) : HeapOk w g [] := fun id l h => by simp at h

/-- A function that answers so, called in a world: it returns that, and what was there is as it was. -/
theorem EvR.calls {E : Env} {f : FuncId} {fn : Func} {c : Code} {args : List AV} {v : AV} (hf : E.P.funcs[f]? = some fn) (hn : (fn.name == "runtime.NumGoroutine") = false) (hb : fn.body = some c)
    (hev : EvR E f args [] v) {W : World} {vs : Array Value} (hgl : GlOk E W (Gh.all W)) (ha : argsOk W (Gh.all W) 0 args vs) :
    Calls E.P f vs W fun e w' => (∃ x g', e = .returned x ∧ Rep w' g' 0 v x) ∧ Below W.heap.size W w' := by
  rcases hev W (Gh.all W) vs (gok_all W) hgl (heapOk_nil _ _) ha with ⟨_, h⟩ | ⟨x, w', h1, _⟩
  · refine h.mono ?_
    rintro e w' ⟨r, h', g', ⟨rfl, rfl⟩, ⟨x, rfl, hr⟩, _, _, _, hst, _⟩
    refine ⟨⟨x, g', rfl, hr⟩, hst.os, hst.tape, hst.output, hst.size, fun b hbl => hst.blk b hbl fun off => ?_⟩
    right
    simp only [Gh.all]
    rw [if_pos hbl]
  · exfalso
    have h2 : (callFunc f vs).run E.P W = .ok (.enter f vs) W := by
      simp only [callFunc, Sem.run_bind, run_program, Result.andThen_ok, hf, hn, hb]
      rfl
    rw [h2] at h1
    cases h1

theorem argsOk_one {W : World} {g : Gh} {x : Value} : argsOk W g 0 [.lit x] #[x] := by
  refine ⟨rfl, fun i av hi => ?_⟩
  match i, hi with
  | 0, hi => cases hi; exact ⟨x, rfl, Rep.lit_iff.2 rfl, trivial⟩

end Go.Abs

namespace Go.Abs
open Go Go.RowKit

mutual
def AV.low : AV → AV
  | .sl _ es => .sl .unk (lows es)
  | .agg cs => .agg (lows cs)
  | v => v
def lows : List AV → List AV
  | [] => []
  | a :: l => a.low :: lows l
end

theorem lows_length : ∀ (l : List AV), (lows l).length = l.length
  | [] => rfl
  | a :: l => by simp only [lows, List.length_cons, lows_length l]
theorem lows_get : ∀ (l : List AV) (i : Nat), (lows l)[i]? = l[i]?.map AV.low
  | [], i => by simp [lows]
  | a :: l, 0 => by simp [lows]
  | a :: l, i + 1 => by simp [lows, lows_get l i]
theorem lows_map : ∀ (l : List AV), lows l = l.map AV.low
  | [] => rfl
  | a :: l => by simp only [lows, List.map_cons, lows_map l]

mutual
theorem Rep.low {w : World} {g : Gh} {n : Nat} : ∀ (av : AV) (v : Value), Rep w g n av v → Rep w g n av.low v
  | .agg cs, v, h => by
    simp only [Rep, AV.low] at h ⊢
    obtain ⟨vs, rfl, h⟩ := h
    exact ⟨vs, rfl, Reps.low cs _ h⟩
  | .sl c es, v, h => by
    simp only [Rep, AV.low] at h ⊢
    obtain ⟨base, len, cap, rfl, h1, h2, h3, h4, h5⟩ := h
    exact ⟨base, len, cap, rfl, by rw [lows_length]; exact h1, h2, (fun h => by cases h), h4, fun a ha => let ⟨h6, k, h7⟩ := h5 a ha; ⟨h6, k, Els.low es _ _ _ h7⟩⟩
  | .any, v, h => h
  | .lit _, v, h => h
  | .tup _, v, h => h
  | .cp _, v, h => h
  | .ref _ _, v, h => h
  | .vw _ _ _ _, v, h => h
  | .fn _ _ _, v, h => h
  | .ifc _ _, v, h => h
  | .bp _, v, h => h
  | .buf _ _, v, h => h
theorem Reps.low {w : World} {g : Gh} {n : Nat} : ∀ (as : List AV) (vs : List Value), Reps w g n as vs → Reps w g n (lows as) vs
  | [], _, h => h
  | a :: as, vs, h => by
    simp only [Reps, lows] at h ⊢
    obtain ⟨v, rest, rfl, h1, h2⟩ := h
    exact ⟨v, rest, rfl, Rep.low a _ h1, Reps.low as _ h2⟩
theorem Els.low {w : World} {g : Gh} {n : Nat} : ∀ (es : List AV) (b off k : Nat), Els w g n es b off k → Els w g n (lows es) b off k
  | [], _, _, _, h => h
  | e :: es, b, off, k, h => by
    simp only [Els, lows] at h ⊢
    obtain ⟨⟨v, h1, h2, h3⟩, h4⟩ := h
    exact ⟨⟨v, Rep.low e _ h1, h2, h3⟩, Els.low es _ _ _ h4⟩
end

theorem SpareOk.low {w g n s} {av : AV} {v : Value} (h : SpareOk w g n s av v) : SpareOk w g n s av.low v := by
  cases av <;> first | exact h | exact trivial

/-- A contract at weaker arguments serves at stronger ones. -/
theorem Ev.high {E : Env} {f : FuncId} {args args' : List AV} {h : List AObj} {Q : ARes → List AObj → Prop} (hh : Ev E f args h Q) (he : lows args' = args) : Ev E f args' h Q :=
  fun w g vs h1 h2 h3 h4 => hh w g vs h1 h2 h3 ⟨by rw [← he, lows_length]; exact h4.1, fun i av hi => by
    rw [← he, lows_get, Option.map_eq_some_iff] at hi
    obtain ⟨a, ha, rfl⟩ := hi
    obtain ⟨v, hv, hr, hs⟩ := h4.2 i a ha
    exact ⟨v, hv, Rep.low a _ hr, hs.low⟩⟩
theorem EvR.high {E : Env} {f : FuncId} {args args' : List AV} {h : List AObj} {v : AV} (hh : EvR E f args h v) (he : lows args' = args) : EvR E f args' h v := Ev.high hh he

end Go.Abs
