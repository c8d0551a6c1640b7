/- The rows' common part: what the listed variables hold, a start that fits. -/
import Derived.Test.YtenhfnadhmjloaaDoorT7M
import Derived.Test.YtenhfnadhmjloaaDoorAbsY
import Derived.Test.YtenhfnadhmjloaaDoorRows
import Derived.SizedLaws
import Derived.ChangeSame
import Derived.ChangeVars
import Derived.ChangeMaps5
import Derived.JoinedOf
import Derived.JoinedAt
import Derived.RowKit
import Derived.RowKit3
import Derived.RowKitTokens
import Derived.LaidLaws
import Derived.Stop.LaidErr
import Derived.Deep.DeepLaidRun
import Derived.ProofKit
set_option linter.all false
namespace Go.Proofs.YtenhfnadhmjloaaDoor
open Go.ChangeShapes Go.WideShapes Go.ChangeAt Go.RowKit
open Go.ChangeMaps (open_string shut_string)

theorem Tryd.own : ownKnob Tryd.prog.godebug = none := by kernel_rfl
theorem Tryd.gES : Tryd.prog.globalNamed "strconv.ErrSyntax" = some 0 := by kernel_rfl
theorem Tryd.gER : Tryd.prog.globalNamed "strconv.ErrRange" = some 1 := by kernel_rfl
theorem Tryd.gESType : (Tryd.prog.globals[0]?).map (·.type) = some 55 := by kernel_rfl
theorem Tryd.gERType : (Tryd.prog.globals[1]?).map (·.type) = some 55 := by kernel_rfl
theorem Tryd.cells77 : Tryd.prog.cellsOf 77 = 1 := by kernel_rfl
theorem Tryd.cells9 : Tryd.prog.cellsOf 9 = 1 := by kernel_rfl
theorem Tryd.star : "*" ++ "errors.errorString" = "*errors.errorString" := by decide
theorem Tryd.row75 (u : TypeId) (h : Tryd.prog.typeName? 3 u = some "*errors.errorString") : u = 75 :=
  typeName_ptr_named (nm := "errors.errorString") (by rw [Tryd.star]; kernel_rfl) (by kernel_rfl) (by decide) u (by rw [Tryd.star]; exact h)

abbrev lst : List (String × DataW Unit) := [("math/bits.deBruijn32tab", Rows.laid_math_bits_deBruijn32tab), ("math/bits.deBruijn64tab", Rows.laid_math_bits_deBruijn64tab), ("internal/strconv.uint64pow10", Rows.laid_internal_strconv_uint64pow10), ("strconv.ErrRange", Rows.laid_strconv_ErrRange), ("strconv.ErrSyntax", Rows.laid_strconv_ErrSyntax)]

theorem glOk_of_laid {W : World} (hL : laidMet Tryd.prog lst W) : Go.Abs.GlOk Go.Abs.T7.E0 W (Go.Abs.Gh.all W) := by
  have hL3 := hL.tail.tail.tail
  obtain ⟨a1, s1, hv1, -, -, -⟩ := laid_sentinel hL3 Tryd.gER Tryd.gERType Tryd.underlying55 Tryd.row75 Tryd.underlying75 Tryd.underlying77 rfl rfl Tryd.underlying9 Tryd.cells77 Tryd.cells9
  obtain ⟨a0, s0, hv0, -, -, -⟩ := laid_sentinel hL3.tail Tryd.gES Tryd.gESType Tryd.underlying55 Tryd.row75 Tryd.underlying75 Tryd.underlying77 rfl rfl Tryd.underlying9 Tryd.cells77 Tryd.cells9
  have h0 : W.cell? ⟨0, 0, none⟩ = some (.iface 75 (.pointer (some a0))) := by have h0 := World.var?_cell Tryd.gES hv0 0; simpa using h0
  have h1 : W.cell? ⟨1, 0, none⟩ = some (.iface 75 (.pointer (some a1))) := by have h0 := World.var?_cell Tryd.gER hv1 0; simpa using h0
  have one : ∀ (i : Nat) (v : Value), W.cell? ⟨i, 0, none⟩ = some (.iface 75 v) → ∃ vs, Go.Abs.Holds W (Go.Abs.Gh.all W) i 0 vs ∧ Go.Abs.Reps W (Go.Abs.Gh.all W) 0 [.ifc 75 .any] vs := fun i v h => by
    refine ⟨[.iface 75 v], Go.Abs.holds_all fun j u hj => ?_, by simp [Go.Abs.Reps, Go.Abs.Rep]⟩
    match j, hj with
    | 0, hj => cases hj; exact h
  intro i cs hi
  change Go.Abs.T7.gl07 i = some cs at hi
  unfold Go.Abs.T7.gl07 at hi
  split at hi
  · rename_i hi0; subst hi0; cases hi; exact one 0 _ h0
  · split at hi
    · rename_i hi1; subst hi1; cases hi; exact one 1 _ h1
    · cases hi

/-! ### One start that fits -/
abbrev synS : ByteArray := { data := #[105, 110, 118, 97, 108, 105, 100, 32, 115, 121, 110, 116, 97, 120] }
abbrev rngS : ByteArray := { data := #[118, 97, 108, 117, 101, 32, 111, 117, 116, 32, 111, 102, 32, 114, 97, 110, 103, 101] }
noncomputable def low : Nat := (World.holding Tryd.prog default ⟨#[], #[], []⟩).heap.size
def setCells (cs : Array Value) : Obj → Obj
  | .cells _ t frozen => .cells cs t frozen
  | o => o
noncomputable def laidWorld (os : Os) : World :=
  let w0 := World.holding Tryd.prog os ⟨#[.cells #[.string synS] 77, .cells #[.string rngS] 77], #[], []⟩
  { w0 with heap := ((((w0.heap.modify 0 (setCells #[.iface 75 (.pointer (some ⟨low, 0, none⟩))])).modify 1 (setCells #[.iface 75 (.pointer (some ⟨low + 1, 0, none⟩))])).modify 2 (setCells #[.int .u64 1, .int .u64 10, .int .u64 100, .int .u64 1000, .int .u64 10000, .int .u64 100000, .int .u64 1000000, .int .u64 10000000, .int .u64 100000000, .int .u64 1000000000, .int .u64 10000000000, .int .u64 100000000000, .int .u64 1000000000000, .int .u64 10000000000000, .int .u64 100000000000000, .int .u64 1000000000000000, .int .u64 10000000000000000, .int .u64 100000000000000000, .int .u64 1000000000000000000, .int .u64 10000000000000000000])).modify 3 (setCells #[.int .u8 0, .int .u8 1, .int .u8 28, .int .u8 2, .int .u8 29, .int .u8 14, .int .u8 24, .int .u8 3, .int .u8 30, .int .u8 22, .int .u8 20, .int .u8 15, .int .u8 25, .int .u8 17, .int .u8 4, .int .u8 8, .int .u8 31, .int .u8 27, .int .u8 13, .int .u8 23, .int .u8 21, .int .u8 19, .int .u8 16, .int .u8 7, .int .u8 26, .int .u8 12, .int .u8 18, .int .u8 6, .int .u8 11, .int .u8 5, .int .u8 10, .int .u8 9])).modify 4 (setCells #[.int .u8 0, .int .u8 1, .int .u8 56, .int .u8 2, .int .u8 57, .int .u8 49, .int .u8 28, .int .u8 3, .int .u8 61, .int .u8 58, .int .u8 42, .int .u8 50, .int .u8 38, .int .u8 29, .int .u8 17, .int .u8 4, .int .u8 62, .int .u8 47, .int .u8 59, .int .u8 36, .int .u8 45, .int .u8 43, .int .u8 51, .int .u8 22, .int .u8 53, .int .u8 39, .int .u8 33, .int .u8 30, .int .u8 24, .int .u8 18, .int .u8 12, .int .u8 5, .int .u8 63, .int .u8 55, .int .u8 48, .int .u8 27, .int .u8 60, .int .u8 41, .int .u8 37, .int .u8 16, .int .u8 46, .int .u8 35, .int .u8 44, .int .u8 21, .int .u8 52, .int .u8 32, .int .u8 23, .int .u8 11, .int .u8 54, .int .u8 26, .int .u8 40, .int .u8 15, .int .u8 34, .int .u8 20, .int .u8 31, .int .u8 10, .int .u8 25, .int .u8 14, .int .u8 19, .int .u8 9, .int .u8 13, .int .u8 8, .int .u8 7, .int .u8 6]) }
theorem laidWorld_met (os : Os) (args : Array Value) : laidMet Tryd.prog lst ((laidWorld os).forCall (fun _ _ => 0) ⟨#[], args, []⟩).memory :=
  laidMet_of_run3 8 (by kernel_rfl) (by kernel_rfl) (by kernel_rfl)

end Go.Proofs.YtenhfnadhmjloaaDoor
