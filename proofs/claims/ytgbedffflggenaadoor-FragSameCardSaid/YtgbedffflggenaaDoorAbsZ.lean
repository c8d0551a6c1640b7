/- What is asked of arguments, weakened: room behind a slice's end need not be known. -/
import Derived.Test.YtgbedffflggenaaDoorAbsX
set_option linter.all false
namespace Go.Abs
open Go Go.RowKit

mutual
def AV.low : AV → AV
  | .sl _ es => .sl .unk (lows es)
  | .agg cs => .agg (lows cs)
  | v => v
def lows : List AV → List AV
  | [] => []
  | a :: l => a.low :: lows l
end

theorem lows_length : ∀ (l : List AV), (lows l).length = l.length
  | [] => rfl
  | a :: l => by simp only [lows, List.length_cons, lows_length l]
theorem lows_get : ∀ (l : List AV) (i : Nat), (lows l)[i]? = l[i]?.map AV.low
  | [], i => by simp [lows]
  | a :: l, 0 => by simp [lows]
  | a :: l, i + 1 => by simp [lows, lows_get l i]
theorem lows_map : ∀ (l : List AV), lows l = l.map AV.low
  | [] => rfl
  | a :: l => by simp only [lows, List.map_cons, lows_map l]

mutual
theorem Rep.low {w : World} {g : Gh} {n : Nat} : ∀ (av : AV) (v : Value), Rep w g n av v → Rep w g n av.low v
  | .agg cs, v, h => by
    simp only [Rep, AV.low] at h ⊢
    obtain ⟨vs, rfl, h⟩ := h
    exact ⟨vs, rfl, Reps.low cs _ h⟩
  | .sl c es, v, h => by
    simp only [Rep, AV.low] at h ⊢
    obtain ⟨base, len, cap, rfl, h1, h2, h3, h4, h5⟩ := h
    exact ⟨base, len, cap, rfl, by rw [lows_length]; exact h1, h2, (fun h => by cases h), h4, fun a ha => let ⟨h6, k, h7⟩ := h5 a ha; ⟨h6, k, Els.low es _ _ _ h7⟩⟩
  | .any, v, h => h
  | .lit _, v, h => h
  | .tup _, v, h => h
  | .cp _, v, h => h
  | .ref _ _, v, h => h
  | .vw _ _ _ _, v, h => h
  | .fn _ _ _, v, h => h
  | .ifc _ _, v, h => h
  | .bp _, v, h => h
  | .buf _ _, v, h => h
theorem Reps.low {w : World} {g : Gh} {n : Nat} : ∀ (as : List AV) (vs : List Value), Reps w g n as vs → Reps w g n (lows as) vs
  | [], _, h => h
  | a :: as, vs, h => by
    simp only [Reps, lows] at h ⊢
    obtain ⟨v, rest, rfl, h1, h2⟩ := h
    exact ⟨v, rest, rfl, Rep.low a _ h1, Reps.low as _ h2⟩
theorem Els.low {w : World} {g : Gh} {n : Nat} : ∀ (es : List AV) (b off k : Nat), Els w g n es b off k → Els w g n (lows es) b off k
  | [], _, _, _, h => h
  | e :: es, b, off, k, h => by
    simp only [Els, lows] at h ⊢
    obtain ⟨⟨v, h1, h2, h3⟩, h4⟩ := h
    exact ⟨⟨v, Rep.low e _ h1, h2, h3⟩, Els.low es _ _ _ h4⟩
end

theorem SpareOk.low {w g n s} {av : AV} {v : Value} (h : SpareOk w g n s av v) : SpareOk w g n s av.low v := by
  cases av <;> first | exact h | exact trivial

/-- A contract at weaker arguments serves at stronger ones. -/
theorem Ev.high {E : Env} {f : FuncId} {args args' : List AV} {h : List AObj} {Q : ARes → List AObj → Prop} (hh : Ev E f args h Q) (he : lows args' = args) : Ev E f args' h Q :=
  fun w g vs h1 h2 h3 h4 => hh w g vs h1 h2 h3 ⟨by rw [← he, lows_length]; exact h4.1, fun i av hi => by
    rw [← he, lows_get, Option.map_eq_some_iff] at hi
    obtain ⟨a, ha, rfl⟩ := hi
    obtain ⟨v, hv, hr, hs⟩ := h4.2 i a ha
    exact ⟨v, hv, Rep.low a _ hr, hs.low⟩⟩
theorem EvR.high {E : Env} {f : FuncId} {args args' : List AV} {h : List AObj} {v : AV} (hh : EvR E f args h v) (he : lows args' = args) : EvR E f args' h v := Ev.high hh he

end Go.Abs
