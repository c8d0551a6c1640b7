/- A slice that its holder may still write, of whatever length, lent to a function that does not. -/
import Derived.Test.YtloimemacnjpgaaGreatAbsZ
import Derived.Test.YtloimemacnjpgaaGreatAbsFz2
set_option linter.all false
namespace Go.Abs
open Go Go.RowKit

inductive Lent2 (h : List AObj) : AV → AV → Prop where
  | same {a : AV} (hu : AV.under 0 a = true) : Lent2 h a a
  | many {id len cap k : Nat} {cs es : List AV} (hid : h[id]? = some (.cells cs)) (htk : cs.take (len * k) = flatC es) (hfit : Fit k es) (hone : allOne es) (hlen : es.length = len) (hu : unders 0 (flatC es) = true) : Lent2 h (.vw id 0 len cap) (.sl .unk es)

theorem Lent2.rep {w : World} {g : Gh} {h : List AObj} {a a' : AV} (hl : Lent2 h a a') (hh : HeapOk w g h) {v : Value} (hr : Rep w g h.length a v) : Rep w (Gh.all w) 0 a' v := by
  cases hl with
  | same hu => exact Rep.all _ _ hu hr
  | @many id len cap k cs es hid htk hfit hone hlen hu =>
    simp only [Rep] at hr
    obtain ⟨rfl, -, hlc⟩ := hr
    obtain ⟨vs, e, hc⟩ := hh.cells id cs hid
    simp only [Rep]
    refine ⟨_, len, cap, rfl, hlen, hlc, (fun h => by cases h), (fun h => by cases h), fun a ha => ?_⟩
    cases ha
    refine ⟨fun _ => rfl, k, ?_⟩
    refine Els.of_flat hfit hone (vs := vs.toList.take (len * k)) (holds_all fun j u hj => ?_) ?_
    · rw [cell_of_heap hc.blk]
      rw [List.getElem?_take] at hj
      split at hj
      · simpa using hj
      · cases hj
    · refine Reps.of_get (by rw [← htk]; simp [hc.size]) fun i av u hi hu' => ?_
      have hi0 := hi
      rw [← htk, List.getElem?_take] at hi
      rw [List.getElem?_take] at hu'
      split at hi
      · rename_i hik
        rw [if_pos hik] at hu'
        obtain ⟨u', h1, h2, _⟩ := hc.rep i av hi
        have : u' = u := by
          have h3 : vs.toList[i]? = some u' := by simpa using h1
          exact Option.some.inj (h3.symm.trans hu')
        subst this
        exact Rep.all _ _ (unders_get hu hi0) h2
      · cases hi

/-- A function that answers with a literal, whatever it is handed, and alone. -/
theorem EvR.lend2 {E : Env} {f : FuncId} {fn : Func} {c : Code} {args args' : List AV} {u : Value} (hf : E.P.funcs[f]? = some fn) (hn : (fn.name == "runtime.NumGoroutine") = false) (hb : fn.body = some c)
    (hev : EvR E f args' [] (.lit u)) {h : List AObj} (hlen : args'.length = args.length) (hl : ∀ (i : Nat) a a', args[i]? = some a → args'[i]? = some a' → Lent2 h a a' ∧ ∀ k es, a' ≠ .sl (.own k) es) : EvR E f args h (.lit u) := by
  intro w g vs hg hgl hh ha
  have hgl' : GlOk E w (Gh.all w) := fun i cs hi => by
    obtain ⟨us, h1, h2, ⟨e, fr, h3⟩, h4⟩ := hgl i cs hi
    refine ⟨us, h1.all, ?_, ⟨e, fr, h3⟩, fun off => ?_⟩
    · refine Reps.of_get h2.length fun j a v ha hv => ?_
      obtain ⟨v', hv', hr⟩ := h2.get j a ha
      have : v' = v := Option.some.inj (hv'.symm.trans hv)
      subst this
      exact Rep.all0 _ _ hr
    · simp only [Gh.all]
      rw [if_pos (by
        rcases Nat.lt_or_ge i w.heap.size with h | h
        · exact h
        · rw [Array.getElem?_eq_none h] at h3; cases h3)]
  have ha' : argsOk w (Gh.all w) 0 args' vs := by
    refine ⟨by rw [hlen]; exact ha.1, fun i a' hi => ?_⟩
    obtain ⟨a, haa⟩ : ∃ a, args[i]? = some a := ⟨_, List.getElem?_eq_getElem (by rw [← hlen]; exact (List.getElem?_eq_some_iff.1 hi).1)⟩
    obtain ⟨v, hv, hr, _⟩ := ha.2 i a haa
    obtain ⟨h1, h2⟩ := hl i a a' haa hi
    refine ⟨v, hv, h1.rep hh hr, ?_⟩
    cases a' <;> try exact trivial
    rename_i c es
    cases c <;> first | exact trivial | exact absurd rfl (h2 _ _)
  refine .inl ⟨?_, ?_⟩
  · simp only [callFunc, Sem.run_bind, run_program, Result.andThen_ok, hf, hn, hb]
    rfl
  · refine (EvR.calls hf hn hb hev hgl' ha').mono ?_
    rintro e w' ⟨⟨x, g', rfl, hr⟩, hbel⟩
    have hgr := Below.grown (n := h.length) hbel hg
    refine ⟨.ret (.lit u), h, g, ⟨rfl, rfl⟩, ⟨x, rfl, by rw [Rep.lit_iff] at hr ⊢; exact hr⟩, hgr.gok, hgl.later (hgr.later (Nat.le_refl _)).to_zero, ?_, hgr.stable, Nat.le_refl _⟩
    exact hgr.heapOk hh (List.prefix_refl _) (fun id l hid hl => by rw [List.getElem?_eq_none hid] at hl; cases hl)
end Go.Abs

namespace Go.Abs
open Go Go.RowKit

inductive Lent3 (h : List AObj) : AV → AV → Prop where
  | one {a a' : AV} (h2 : Lent2 h a a') : Lent3 h a a'
  | agg {cs cs' : List AV} (hl : cs'.length = cs.length) (hc : ∀ (i : Nat) a b, cs[i]? = some a → cs'[i]? = some b → Lent3 h a b) : Lent3 h (.agg cs) (.agg cs')

theorem Lent3.rep {w : World} {g : Gh} {h : List AObj} {a a' : AV} (hl : Lent3 h a a') (hh : HeapOk w g h) {v : Value} (hr : Rep w g h.length a v) : Rep w (Gh.all w) 0 a' v := by
  induction hl generalizing v with
  | one h2 => exact h2.rep hh hr
  | @agg cs cs' hlen hc ih =>
    simp only [Rep] at hr ⊢
    obtain ⟨vs, rfl, hrs⟩ := hr
    refine ⟨vs, rfl, Reps.of_get (by rw [hlen]; exact hrs.length) fun i b u hb hu => ?_⟩
    obtain ⟨c, hcc⟩ : ∃ c, cs[i]? = some c := ⟨_, List.getElem?_eq_getElem (by rw [← hlen]; exact (List.getElem?_eq_some_iff.1 hb).1)⟩
    obtain ⟨u', hu', hr'⟩ := hrs.get i c hcc
    rw [hu] at hu'; cases hu'
    exact ih i c b hcc hb hr'

/-- A function that answers with a literal, whatever it is handed, and alone. -/
theorem EvR.lend3 {E : Env} {f : FuncId} {fn : Func} {c : Code} {args args' : List AV} {u : Value} (hf : E.P.funcs[f]? = some fn) (hn : (fn.name == "runtime.NumGoroutine") = false) (hb : fn.body = some c)
    (hev : EvR E f args' [] (.lit u)) {h : List AObj} (hlen : args'.length = args.length) (hl : ∀ (i : Nat) a a', args[i]? = some a → args'[i]? = some a' → Lent3 h a a' ∧ ∀ k es, a' ≠ .sl (.own k) es) : EvR E f args h (.lit u) := by
  intro w g vs hg hgl hh ha
  have hgl' : GlOk E w (Gh.all w) := fun i cs hi => by
    obtain ⟨us, h1, h2, ⟨e, fr, h3⟩, h4⟩ := hgl i cs hi
    refine ⟨us, h1.all, ?_, ⟨e, fr, h3⟩, fun off => ?_⟩
    · refine Reps.of_get h2.length fun j a v ha hv => ?_
      obtain ⟨v', hv', hr⟩ := h2.get j a ha
      have : v' = v := Option.some.inj (hv'.symm.trans hv)
      subst this
      exact Rep.all0 _ _ hr
    · simp only [Gh.all]
      rw [if_pos (by
        rcases Nat.lt_or_ge i w.heap.size with h | h
        · exact h
        · rw [Array.getElem?_eq_none h] at h3; cases h3)]
  have ha' : argsOk w (Gh.all w) 0 args' vs := by
    refine ⟨by rw [hlen]; exact ha.1, fun i a' hi => ?_⟩
    obtain ⟨a, haa⟩ : ∃ a, args[i]? = some a := ⟨_, List.getElem?_eq_getElem (by rw [← hlen]; exact (List.getElem?_eq_some_iff.1 hi).1)⟩
    obtain ⟨v, hv, hr, _⟩ := ha.2 i a haa
    obtain ⟨h1, h2⟩ := hl i a a' haa hi
    refine ⟨v, hv, h1.rep hh hr, ?_⟩
    cases a' <;> try exact trivial
    rename_i c es
    cases c <;> first | exact trivial | exact absurd rfl (h2 _ _)
  refine .inl ⟨?_, ?_⟩
  · simp only [callFunc, Sem.run_bind, run_program, Result.andThen_ok, hf, hn, hb]
    rfl
  · refine (EvR.calls hf hn hb hev hgl' ha').mono ?_
    rintro e w' ⟨⟨x, g', rfl, hr⟩, hbel⟩
    have hgr := Below.grown (n := h.length) hbel hg
    refine ⟨.ret (.lit u), h, g, ⟨rfl, rfl⟩, ⟨x, rfl, by rw [Rep.lit_iff] at hr ⊢; exact hr⟩, hgr.gok, hgl.later (hgr.later (Nat.le_refl _)).to_zero, ?_, hgr.stable, Nat.le_refl _⟩
    exact hgr.heapOk hh (List.prefix_refl _) (fun id l hid hl => by rw [List.getElem?_eq_none hid] at hl; cases hl)
end Go.Abs
