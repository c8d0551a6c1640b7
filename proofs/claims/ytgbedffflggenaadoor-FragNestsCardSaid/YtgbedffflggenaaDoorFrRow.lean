/- The rows' common part: what the listed variables hold, a start that fits. -/
import Derived.Test.YtgbedffflggenaaDoorFrRd
import Derived.Test.YtgbedffflggenaaDoorRows
import Derived.SizedLaws
import Derived.ChangeSame
import Derived.ChangeVars
import Derived.ChangeMaps5
import Derived.JoinedOf
import Derived.JoinedAt
import Derived.RowKit
import Derived.RowKit3
import Derived.RowKitTokens
import Derived.LaidLaws
import Derived.Stop.LaidErr
import Derived.Deep.DeepLaidRun
import Derived.ProofKit
set_option linter.all false
namespace Go.Proofs.YtgbedffflggenaaDoor
open Go.ChangeShapes Go.WideShapes Go.ChangeAt Go.RowKit

theorem Tryd.own : ownKnob Tryd.prog.godebug = none := by kernel_rfl
theorem Tryd.gP10 : Tryd.prog.globalNamed "internal/strconv.uint64pow10" = some 1 := by kernel_rfl

abbrev lst : List (String × DataW Unit) := [("math/bits.deBruijn32tab", Rows.laid_math_bits_deBruijn32tab), ("math/bits.deBruijn64tab", Rows.laid_math_bits_deBruijn64tab), ("internal/strconv.uint64pow10", Rows.laid_internal_strconv_uint64pow10)]

theorem Tryd.p10type : ∃ t n e, (Tryd.prog.globals[1]?).map (·.type) = some t ∧ Tryd.prog.underlying t = some (.array n e) ∧ Tryd.prog.underlying e = some (.int .u64) ∧ Tryd.prog.cellsOf e = 1 ∧ Tryd.prog.cellsOf t = n :=
  ⟨120, 20, 104, by kernel_rfl, by kernel_rfl, by kernel_rfl, by kernel_rfl, by kernel_rfl⟩

theorem tab_of_laid {W : World} (hL : laidMet Tryd.prog lst W) : Lib.TabIs Tryd.prog W "internal/strconv.uint64pow10" .u64 Lib.pow10Tab := by
  obtain ⟨t, n, e, h1, h2, h3, h4, h5⟩ := Tryd.p10type
  exact Lib.tabIs_of_head Tryd.gP10 h1 h2 h3 h4 h5 (show laidMet Tryd.prog (("internal/strconv.uint64pow10", Lib.tabData .u64 Lib.pow10Tab) :: []) W from hL.tail.tail)

theorem glOk_of_laid {W : World} (hL : laidMet Tryd.prog lst W) : Go.Abs.GlOk Go.Abs.Fr.E0 W (Go.Abs.Gh.all W) := by
  have ht := tab_of_laid hL
  intro i cs hi
  change Go.Abs.Fr.gl18 i = some cs at hi
  have hb : ∃ e fr, W.heap[1]? = some (.cells (Lib.pow10Tab.map fun z => Value.int .u64 z).toArray e fr) := by
    have h := ht
    unfold Lib.TabIs World.var? at h
    rw [Tryd.gP10] at h
    simp only [Option.bind_some] at h
    split at h
    · rename_i c e fr he
      cases h
      exact ⟨e, fr, he⟩
    · cases h
  obtain ⟨e, fr, hb⟩ := hb
  have hlt : 1 < W.heap.size := by
    rcases Nat.lt_or_ge 1 W.heap.size with h | h
    · exact h
    · rw [Array.getElem?_eq_none h] at hb; cases hb
  unfold Go.Abs.Fr.gl18 at hi
  split at hi
  · rename_i hi0
    subst hi0
    cases hi
    refine ⟨Lib.pow10Tab.map fun z => Value.int .u64 z, Go.Abs.holds_all fun j u hj => ?_, ?_, ⟨e, fr, hb⟩, fun off => by simp only [Go.Abs.Gh.all]; rw [if_pos hlt]⟩
    · have := World.var?_cell Tryd.gP10 ht (0 + j)
      rw [this]; simpa using hj
    · refine Go.Abs.Reps.of_get (by simp) fun i a v ha hv => ?_
      simp only [List.getElem?_map, Option.map_eq_some_iff] at ha hv
      obtain ⟨z, hz, rfl⟩ := ha
      obtain ⟨z', hz', rfl⟩ := hv
      rw [hz] at hz'; cases hz'
      exact Go.Abs.Rep.lit_iff.2 rfl
  · cases hi

/-! ### One start that fits -/
def setCells (cs : Array Value) : Obj → Obj
  | .cells _ t frozen => .cells cs t frozen
  | o => o
noncomputable def laidWorld (os : Os) : World :=
  let w0 := World.holding Tryd.prog os ⟨#[], #[], []⟩
  { w0 with heap := (((w0.heap.modify 1 (setCells #[.int .u64 1, .int .u64 10, .int .u64 100, .int .u64 1000, .int .u64 10000, .int .u64 100000, .int .u64 1000000, .int .u64 10000000, .int .u64 100000000, .int .u64 1000000000, .int .u64 10000000000, .int .u64 100000000000, .int .u64 1000000000000, .int .u64 10000000000000, .int .u64 100000000000000, .int .u64 1000000000000000, .int .u64 10000000000000000, .int .u64 100000000000000000, .int .u64 1000000000000000000, .int .u64 10000000000000000000])).modify 2 (setCells #[.int .u8 0, .int .u8 1, .int .u8 28, .int .u8 2, .int .u8 29, .int .u8 14, .int .u8 24, .int .u8 3, .int .u8 30, .int .u8 22, .int .u8 20, .int .u8 15, .int .u8 25, .int .u8 17, .int .u8 4, .int .u8 8, .int .u8 31, .int .u8 27, .int .u8 13, .int .u8 23, .int .u8 21, .int .u8 19, .int .u8 16, .int .u8 7, .int .u8 26, .int .u8 12, .int .u8 18, .int .u8 6, .int .u8 11, .int .u8 5, .int .u8 10, .int .u8 9])).modify 3 (setCells #[.int .u8 0, .int .u8 1, .int .u8 56, .int .u8 2, .int .u8 57, .int .u8 49, .int .u8 28, .int .u8 3, .int .u8 61, .int .u8 58, .int .u8 42, .int .u8 50, .int .u8 38, .int .u8 29, .int .u8 17, .int .u8 4, .int .u8 62, .int .u8 47, .int .u8 59, .int .u8 36, .int .u8 45, .int .u8 43, .int .u8 51, .int .u8 22, .int .u8 53, .int .u8 39, .int .u8 33, .int .u8 30, .int .u8 24, .int .u8 18, .int .u8 12, .int .u8 5, .int .u8 63, .int .u8 55, .int .u8 48, .int .u8 27, .int .u8 60, .int .u8 41, .int .u8 37, .int .u8 16, .int .u8 46, .int .u8 35, .int .u8 44, .int .u8 21, .int .u8 52, .int .u8 32, .int .u8 23, .int .u8 11, .int .u8 54, .int .u8 26, .int .u8 40, .int .u8 15, .int .u8 34, .int .u8 20, .int .u8 31, .int .u8 10, .int .u8 25, .int .u8 14, .int .u8 19, .int .u8 9, .int .u8 13, .int .u8 8, .int .u8 7, .int .u8 6])) }
theorem laidWorld_met (os : Os) (args : Array Value) : laidMet Tryd.prog lst ((laidWorld os).forCall (fun _ _ => 0) ⟨#[], args, []⟩).memory :=
  laidMet_of_run3 8 (by kernel_rfl) (by kernel_rfl) (by kernel_rfl)

theorem Tryd.laidOut : laidOutB Tryd.prog = true := by kernel_rfl

set_option maxRecDepth 100000 in
/-- A list of functions, as it is read, stands for one. -/
theorem funs_args {H : Type} {enc : TypeId × Value → H} {W : World} {base : Nat} {v : Value} {d : DataW H} {ps : List MemPlace} (hval : Value.okWide Tryd.prog W .any base 22 v) (h : DataW.Trod enc Tryd.prog W 0 (fun _ => true) true 22 v d ps)
    (hw : (d.weights Tryd.prog 22).all (· ≤ reachBytes) = true) :
    ∃ l : List Go.Abs.Fr.Fun, Go.Abs.Fr.mxF l ≤ 2 ^ 48 ∧ Go.Abs.Rep W (Go.Abs.Gh.all W) 0 (Go.Abs.Fr.funsv l) v := by
  obtain ⟨a, len, cap, rfl⟩ := okWide_slice (show Tryd.prog.underlying 22 = some (.slice 31) from Go.Abs.Fr.u22) hval
  obtain ⟨fuel, hf⟩ := h
  obtain ⟨l, hl, hr⟩ := (Go.Abs.Fr.rd_funs fuel).one (fun _ => ⟨rfl, rfl⟩) hf hw
  exact ⟨l, Nat.le_trans hl (by unfold reachBytes; decide), hr⟩
theorem argsOk1 {W : World} {g : Go.Abs.Gh} {a : Go.Abs.AV} {v : Value} (h : Go.Abs.Rep W g 0 a v) (hs : ∀ s, Go.Abs.SpareOk W g 0 s a v) : Go.Abs.argsOk W g 0 [a] #[v] := by
  refine ⟨rfl, fun i av hi => ?_⟩
  match i, hi with
  | 0, hi => cases hi; exact ⟨_, rfl, h, hs _⟩
theorem argsOk2 {W : World} {g : Go.Abs.Gh} {a b : Go.Abs.AV} {v u : Value} (h : Go.Abs.Rep W g 0 a v) (hs : ∀ s, Go.Abs.SpareOk W g 0 s a v) (h' : Go.Abs.Rep W g 0 b u) (hs' : ∀ s, Go.Abs.SpareOk W g 0 s b u) : Go.Abs.argsOk W g 0 [a, b] #[v, u] := by
  refine ⟨rfl, fun i av hi => ?_⟩
  match i, hi with
  | 0, hi => cases hi; exact ⟨_, rfl, h, hs _⟩
  | 1, hi => cases hi; exact ⟨_, rfl, h', hs' _⟩
end Go.Proofs.YtgbedffflggenaaDoor
