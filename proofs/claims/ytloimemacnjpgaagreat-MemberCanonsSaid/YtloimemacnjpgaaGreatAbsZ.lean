/- What is asked of arguments, weakened: room behind a slice's end need not be known. -/
import Derived.Test.YtloimemacnjpgaaGreatAbsX
set_option linter.all false
namespace Go.Abs
open Go Go.RowKit

mutual
def AV.low : AV → AV
  | .sl _ es => .sl .unk (lows es)
  | .agg cs => .agg (lows cs)
  | v => v
def lows : List AV → List AV
  | [] => []
  | a :: l => a.low :: lows l
end

theorem lows_length : ∀ (l : List AV), (lows l).length = l.length
  | [] => rfl
  | a :: l => by simp only [lows, List.length_cons, lows_length l]
theorem lows_get : ∀ (l : List AV) (i : Nat), (lows l)[i]? = l[i]?.map AV.low
  | [], i => by simp [lows]
  | a :: l, 0 => by simp [lows]
  | a :: l, i + 1 => by simp [lows, lows_get l i]
theorem lows_map : ∀ (l : List AV), lows l = l.map AV.low
  | [] => rfl
  | a :: l => by simp only [lows, List.map_cons, lows_map l]

mutual
theorem Rep.low {w : World} {g : Gh} {n : Nat} : ∀ (av : AV) (v : Value), Rep w g n av v → Rep w g n av.low v
  | .agg cs, v, h => by
    simp only [Rep, AV.low] at h ⊢
    obtain ⟨vs, rfl, h⟩ := h
    exact ⟨vs, rfl, Reps.low cs _ h⟩
  | .sl c es, v, h => by
    simp only [Rep, AV.low] at h ⊢
    obtain ⟨base, len, cap, rfl, h1, h2, h3, h4, h5⟩ := h
    exact ⟨base, len, cap, rfl, by rw [lows_length]; exact h1, h2, (fun h => by cases h), h4, fun a ha => let ⟨h6, k, h7⟩ := h5 a ha; ⟨h6, k, Els.low es _ _ _ h7⟩⟩
  | .any, v, h => h
  | .lit _, v, h => h
  | .tup _, v, h => h
  | .cp _, v, h => h
  | .ref _ _, v, h => h
  | .vw _ _ _ _, v, h => h
  | .fn _ _ _, v, h => h
  | .ifc _ _, v, h => h
  | .mp _, v, h => h
  | .bp _, v, h => h
  | .buf _ _, v, h => h
theorem Reps.low {w : World} {g : Gh} {n : Nat} : ∀ (as : List AV) (vs : List Value), Reps w g n as vs → Reps w g n (lows as) vs
  | [], _, h => h
  | a :: as, vs, h => by
    simp only [Reps, lows] at h ⊢
    obtain ⟨v, rest, rfl, h1, h2⟩ := h
    exact ⟨v, rest, rfl, Rep.low a _ h1, Reps.low as _ h2⟩
theorem Els.low {w : World} {g : Gh} {n : Nat} : ∀ (es : List AV) (b off k : Nat), Els w g n es b off k → Els w g n (lows es) b off k
  | [], _, _, _, h => h
  | e :: es, b, off, k, h => by
    simp only [Els, lows] at h ⊢
    obtain ⟨⟨v, h1, h2, h3⟩, h4⟩ := h
    exact ⟨⟨v, Rep.low e _ h1, h2, h3⟩, Els.low es _ _ _ h4⟩
end

theorem SpareOk.low {w g n s} {av : AV} {v : Value} (h : SpareOk w g n s av v) : SpareOk w g n s av.low v := by
  cases av <;> first | exact h | exact trivial

theorem Ev.high {E : Env} {f : FuncId} {args args' : List AV} {h : List AObj} {Q : ARes → List AObj → Prop} (hh : Ev E f args h Q) (he : lows args' = args) : Ev E f args' h Q :=
  fun w g vs h1 h2 h3 h4 => hh w g vs h1 h2 h3 ⟨by rw [← he, lows_length]; exact h4.1, fun i av hi => by
    rw [← he, lows_get, Option.map_eq_some_iff] at hi
    obtain ⟨a, ha, rfl⟩ := hi
    obtain ⟨v, hv, hr, hs⟩ := h4.2 i a ha
    exact ⟨v, hv, Rep.low a _ hr, hs.low⟩⟩
theorem EvR.high {E : Env} {f : FuncId} {args args' : List AV} {h : List AObj} {v : AV} (hh : EvR E f args h v) (he : lows args' = args) : EvR E f args' h v := Ev.high hh he

end Go.Abs

namespace Go.Abs
open Go Go.RowKit

theorem Holds.all {w : World} {g : Gh} {b off : Nat} {vs : List Value} (h : Holds w g b off vs) : Holds w (Gh.all w) b off vs := holds_all fun j u hj => (h j u hj).1

mutual
theorem Rep.all {w : World} {g : Gh} {n : Nat} : ∀ (av : AV) (v : Value), AV.under 0 av = true → Rep w g n av v → Rep w (Gh.all w) 0 av v
  | .any, _, _, _ => by simp [Rep]
  | .lit _, _, _, h => by simpa [Rep] using h
  | .agg cs, v, hu, h => by
    simp only [Rep] at h ⊢
    obtain ⟨vs, rfl, h⟩ := h
    exact ⟨vs, rfl, Reps.all cs _ (by simpa [AV.under] using hu) h⟩
  | .tup cs, v, hu, h => by
    simp only [Rep] at h ⊢
    obtain ⟨vs, rfl, h⟩ := h
    exact ⟨vs, rfl, Reps.all cs _ (by simpa [AV.under] using hu) h⟩
  | .sl c es, v, hu, h => by
    simp only [Rep] at h ⊢
    obtain ⟨base, len, cap, rfl, h1, h2, h3, h4, h5⟩ := h
    exact ⟨base, len, cap, rfl, h1, h2, h3, h4, fun a ha => let ⟨h6, k, h7⟩ := h5 a ha; ⟨h6, k, Els.all es _ _ _ (by simpa [AV.under] using hu) h7⟩⟩
  | .cp cs, v, hu, h => by
    simp only [Rep] at h ⊢
    obtain ⟨b, off, vs, rfl, h1, h2⟩ := h
    exact ⟨b, off, vs, rfl, h1.all, Reps.all cs _ (by simpa [AV.under] using hu) h2⟩
  | .ref id off, v, hu, _ => by simp [AV.under] at hu
  | .vw id off len cap, v, hu, _ => by simp [AV.under] at hu
  | .fn f first caps, v, hu, h => by
    simp only [Rep] at h ⊢
    obtain ⟨fa, ca, rfl, h1, h2⟩ := h
    simp only [AV.under, Bool.and_eq_true] at hu
    exact ⟨fa, ca, rfl, Reps.all first _ hu.1 h1, Reps.all caps _ hu.2 h2⟩
  | .ifc t av, v, hu, h => by
    simp only [Rep] at h ⊢
    obtain ⟨y, rfl, h1⟩ := h
    exact ⟨y, rfl, Rep.all av _ (by simpa [AV.under] using hu) h1⟩
  | .mp id, v, hu, _ => by simp [AV.under] at hu
  | .bp _, _, _, _ => by simp [Rep]
  | .buf _ _, _, _, _ => by simp [Rep]
theorem Reps.all {w : World} {g : Gh} {n : Nat} : ∀ (as : List AV) (vs : List Value), unders 0 as = true → Reps w g n as vs → Reps w (Gh.all w) 0 as vs
  | [], _, _, h => by simpa [Reps] using h
  | a :: as, vs, hu, h => by
    simp only [Reps] at h ⊢
    simp only [unders, Bool.and_eq_true] at hu
    obtain ⟨v, rest, rfl, h1, h2⟩ := h
    exact ⟨v, rest, rfl, Rep.all a _ hu.1 h1, Reps.all as _ hu.2 h2⟩
theorem Els.all {w : World} {g : Gh} {n : Nat} : ∀ (es : List AV) (b off k : Nat), unders 0 es = true → Els w g n es b off k → Els w (Gh.all w) 0 es b off k
  | [], _, _, _, _, _ => by simp [Els]
  | e :: es, b, off, k, hu, h => by
    simp only [Els] at h ⊢
    simp only [unders, Bool.and_eq_true] at hu
    obtain ⟨⟨v, h1, h2, h3⟩, h4⟩ := h
    exact ⟨⟨v, Rep.all e _ hu.1 h1, h2, h3.all⟩, Els.all es _ _ _ hu.2 h4⟩
end

inductive Lent (h : List AObj) : AV → AV → Prop where
  | same {a : AV} (hu : AV.under 0 a = true) : Lent h a a
  | one {id : Nat} {cs : List AV} {len cap : Nat} (hid : h[id]? = some (.cells cs)) (hu : unders 0 cs = true) (h1 : len = 1) : Lent h (.vw id 0 len cap) (.sl .unk [.agg cs])

theorem Lent.rep {w : World} {g : Gh} {h : List AObj} {a a' : AV} (hl : Lent h a a') (hh : HeapOk w g h) {v : Value} (hr : Rep w g h.length a v) : Rep w (Gh.all w) 0 a' v := by
  cases hl with
  | same hu => exact Rep.all _ _ hu hr
  | @one id cs len cap hid hu h1 =>
    subst h1
    simp only [Rep] at hr
    obtain ⟨rfl, -, hlc⟩ := hr
    obtain ⟨vs, e, hc⟩ := hh.cells id cs hid
    simp only [Rep]
    refine ⟨_, 1, cap, rfl, rfl, hlc, (fun h => by cases h), (fun h => by cases h), fun a ha => ?_⟩
    cases ha
    refine ⟨fun _ => rfl, cs.length, ?_⟩
    simp only [Els, and_true]
    refine ⟨.agg vs, ?_, hc.size, holds_all fun j u hj => ?_⟩
    · simp only [Rep]
      refine ⟨vs, rfl, Reps.of_get (by simpa using hc.size) fun i a v ha hv => ?_⟩
      obtain ⟨v', hv', hr, _⟩ := hc.rep i a ha
      have : v' = v := by
        have h2 : vs[i]? = some v := by simpa using hv
        exact Option.some.inj (hv'.symm.trans h2)
      subst this
      exact Rep.all _ _ (unders_get hu ha) hr
    · simp only [World.cell?, hc.blk, Option.isSome_none, Bool.false_eq_true, if_false, Nat.zero_add]
      simpa [Value.cells] using hj

end Go.Abs

namespace Go.Abs
open Go Go.RowKit

theorem BrF.not {b : Bool} {A B : Prop} {s t} : BrF (!b) A B s t = BrF b B A t s := by
  unfold BrF
  cases b <;> simp

theorem aw20 {α : Type} :
    (∀ (l : List α) a, (l ++ [a])[l.length]? = some a) ∧
    (∀ (l : List α) a b, (l ++ [a] ++ [b])[l.length]? = some a) ∧
    (∀ (l : List α) a b c, (l ++ [a] ++ [b] ++ [c])[l.length]? = some a) ∧
    (∀ (l : List α) a b c d, (l ++ [a] ++ [b] ++ [c] ++ [d])[l.length]? = some a) ∧
    (∀ (l : List α) a b c d e, (l ++ [a] ++ [b] ++ [c] ++ [d] ++ [e])[l.length]? = some a) ∧
    (∀ (l : List α) a x, (l ++ [a]).set l.length x = l ++ [x]) ∧
    (∀ (l : List α) a b x, (l ++ [a] ++ [b]).set l.length x = l ++ [x] ++ [b]) ∧
    (∀ (l : List α) a b c x, (l ++ [a] ++ [b] ++ [c]).set l.length x = l ++ [x] ++ [b] ++ [c]) ∧
    (∀ (l : List α) a b c d x, (l ++ [a] ++ [b] ++ [c] ++ [d]).set l.length x = l ++ [x] ++ [b] ++ [c] ++ [d]) := by
  refine ⟨?_, ?_, ?_, ?_, ?_, ?_, ?_, ?_, ?_⟩ <;> intros <;> simp

theorem aw21 : (∀ (b : Bool) (A B : Prop) s t, BrF (!b) A B s t = BrF b B A t s) := fun _ _ _ _ _ => BrF.not

theorem Fin.end {h h' junk : List AObj} {v : AV} {Q : ARes → List AObj → Prop} {t} (hc : Closed h) (hu : AV.under h.length v = true) (he : h' = h ++ junk) (hq : Q (.ret v) h) : Fin h' h.length v Q t := ⟨h, junk, he, Nat.le_refl _, fun _ _ => ⟨hc, hu⟩, hq⟩

theorem app_get {α : Type} {l : List α} {i : Nat} {a : α} (h : l[i]? = some a) (r : List α) : (l ++ r)[i]? = some a := by
  rw [List.getElem?_append_left (by
    rcases Nat.lt_or_ge i l.length with h' | h'
    · exact h'
    · rw [List.getElem?_eq_none h'] at h; cases h)]
  exact h

def awD := And.intro @aw1 (And.intro @aw2 @aw17)
def awP := And.intro @ne_eq.{1} (And.intro @not_false_eq_true (And.intro @Option.map_some.{0,0} (And.intro @Option.map_none.{0,0} (And.intro @List.map_cons.{0,0} (And.intro @List.map_nil.{0,0} (And.intro @Bool.not_true (And.intro @Bool.not_false (And.intro @decide_true (And.intro @decide_false (And.intro @List.getElem?_cons_zero.{0} (And.intro @List.getElem?_cons_succ.{0} (And.intro @aw3 (And.intro @aw4 (And.intro @aw5 (And.intro @aw6 (And.intro @aw7 (And.intro @aw8 (And.intro @aw9 (And.intro @aw10 (And.intro @aw11 (And.intro @aw12 (And.intro @aw13 (And.intro @aw14 (And.intro @aw15 (And.intro @aw16 (And.intro @aw19 (And.intro @aw22 (And.intro @aw23 (And.intro @aw24 (And.intro @aw25 (And.intro @if_true.{1} (And.intro @if_false.{1} (And.intro @beq_self_eq_true.{0} (And.intro @beq_true (And.intro @beq_false (And.intro @aw20 (And.intro @aw21 (And.intro @aw18 (And.intro @Bool.false_eq_true (And.intro @Nat.zero_add @Int.cast_ofNat_Int))))))))))))))))))))))))))))))))))))))))
def awH := And.intro @aw20 (And.intro @List.take_succ_cons.{0} (And.intro @List.take_zero.{0} (And.intro @List.drop_zero.{0} (And.intro @List.drop_succ_cons.{0} @List.length_map.{0,0}))))
def awO := And.intro @decide_eq_true_eq (And.intro @decide_eq_false_iff_not (And.intro @Bool.and_eq_true (And.intro @Bool.not_eq_true' (And.intro @Bool.not_eq_false' @List.length_map.{0,0}))))
end Go.Abs
