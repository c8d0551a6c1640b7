/- The rows' common part: what the listed variables hold, a start that fits. -/
import Derived.Test.YthhhpaifelgcpaaDoorS08Num
import Derived.Test.YthhhpaifelgcpaaDoorAbsZr
import Derived.Test.YthhhpaifelgcpaaDoorRows
import Derived.SizedLaws
import Derived.ChangeSame
import Derived.ChangeVars
import Derived.ChangeMaps5
import Derived.JoinedOf
import Derived.JoinedAt
import Derived.RowKit
import Derived.RowKit3
import Derived.RowKitTokens
import Derived.LaidLaws
import Derived.Stop.LaidErr
import Derived.Deep.DeepLaidRun
import Derived.ProofKit
import Derived.Test.YthhhpaifelgcpaaDoorS08FrC
set_option linter.all false
namespace Go.Proofs.YthhhpaifelgcpaaDoor
open Go.ChangeShapes Go.WideShapes Go.ChangeAt Go.RowKit

theorem Tryd.own : ownKnob Tryd.prog.godebug = none := by kernel_rfl
theorem Tryd.gP10 : Tryd.prog.globalNamed "internal/strconv.uint64pow10" = some 3 := by kernel_rfl

abbrev lst : List (String × DataW Unit) := [("math/bits.deBruijn32tab", Rows.laid_math_bits_deBruijn32tab), ("math/bits.deBruijn64tab", Rows.laid_math_bits_deBruijn64tab), ("internal/strconv.uint64pow10", Rows.laid_internal_strconv_uint64pow10), ("unicode/utf8.acceptRanges", Rows.laid_unicode_utf8_acceptRanges), ("unicode/utf8.first", Rows.laid_unicode_utf8_first)]

theorem Tryd.p10type : ∃ t n e, (Tryd.prog.globals[3]?).map (·.type) = some t ∧ Tryd.prog.underlying t = some (.array n e) ∧ Tryd.prog.underlying e = some (.int .u64) ∧ Tryd.prog.cellsOf e = 1 ∧ Tryd.prog.cellsOf t = n :=
  ⟨121, 20, 109, by kernel_rfl, by kernel_rfl, by kernel_rfl, by kernel_rfl, by kernel_rfl⟩

theorem tab_of_laid {W : World} (hL : laidMet Tryd.prog lst W) : Lib.TabIs Tryd.prog W "internal/strconv.uint64pow10" .u64 Lib.pow10Tab := by
  obtain ⟨t, n, e, h1, h2, h3, h4, h5⟩ := Tryd.p10type
  exact Lib.tabIs_of_head Tryd.gP10 h1 h2 h3 h4 h5 (show laidMet Tryd.prog (("internal/strconv.uint64pow10", Lib.tabData .u64 Lib.pow10Tab) :: [("unicode/utf8.acceptRanges", Rows.laid_unicode_utf8_acceptRanges), ("unicode/utf8.first", Rows.laid_unicode_utf8_first)]) W from hL.tail.tail)

theorem glOk_of_laid {W : World} (hL : laidMet Tryd.prog lst W) : Go.Abs.GlOk Go.Abs.Fr.E0 W (Go.Abs.Gh.all W) := by
  have ht := tab_of_laid hL
  intro i cs hi
  change Go.Abs.Fr.gl18 i = some cs at hi
  have hb : ∃ e fr, W.heap[3]? = some (.cells (Lib.pow10Tab.map fun z => Value.int .u64 z).toArray e fr) := by
    have h := ht
    unfold Lib.TabIs World.var? at h
    rw [Tryd.gP10] at h
    simp only [Option.bind_some] at h
    split at h
    · rename_i c e fr he
      cases h
      exact ⟨e, fr, he⟩
    · cases h
  obtain ⟨e, fr, hb⟩ := hb
  have hlt : 3 < W.heap.size := by
    rcases Nat.lt_or_ge 3 W.heap.size with h | h
    · exact h
    · rw [Array.getElem?_eq_none h] at hb; cases hb
  unfold Go.Abs.Fr.gl18 at hi
  split at hi
  · rename_i hi0
    subst hi0
    cases hi
    refine ⟨Lib.pow10Tab.map fun z => Value.int .u64 z, Go.Abs.holds_all fun j u hj => ?_, ?_, ⟨e, fr, hb⟩, fun off => by simp only [Go.Abs.Gh.all]; rw [if_pos hlt]⟩
    · have := World.var?_cell Tryd.gP10 ht (0 + j)
      rw [this]; simpa using hj
    · refine Go.Abs.Reps.of_get (by simp) fun i a v ha hv => ?_
      simp only [List.getElem?_map, Option.map_eq_some_iff] at ha hv
      obtain ⟨z, hz, rfl⟩ := ha
      obtain ⟨z', hz', rfl⟩ := hv
      rw [hz] at hz'; cases hz'
      exact Go.Abs.Rep.lit_iff.2 rfl
  · cases hi

/-! ### One start that fits -/
def setCells (cs : Array Value) : Obj → Obj
  | .cells _ t frozen => .cells cs t frozen
  | o => o
noncomputable def laidWorld (os : Os) : World :=
  let w0 := World.holding Tryd.prog os ⟨#[], #[], []⟩
  { w0 with heap := (((((w0.heap.modify 4 (setCells #[.int .u8 0, .int .u8 1, .int .u8 28, .int .u8 2, .int .u8 29, .int .u8 14, .int .u8 24, .int .u8 3, .int .u8 30, .int .u8 22, .int .u8 20, .int .u8 15, .int .u8 25, .int .u8 17, .int .u8 4, .int .u8 8, .int .u8 31, .int .u8 27, .int .u8 13, .int .u8 23, .int .u8 21, .int .u8 19, .int .u8 16, .int .u8 7, .int .u8 26, .int .u8 12, .int .u8 18, .int .u8 6, .int .u8 11, .int .u8 5, .int .u8 10, .int .u8 9])).modify 5 (setCells #[.int .u8 0, .int .u8 1, .int .u8 56, .int .u8 2, .int .u8 57, .int .u8 49, .int .u8 28, .int .u8 3, .int .u8 61, .int .u8 58, .int .u8 42, .int .u8 50, .int .u8 38, .int .u8 29, .int .u8 17, .int .u8 4, .int .u8 62, .int .u8 47, .int .u8 59, .int .u8 36, .int .u8 45, .int .u8 43, .int .u8 51, .int .u8 22, .int .u8 53, .int .u8 39, .int .u8 33, .int .u8 30, .int .u8 24, .int .u8 18, .int .u8 12, .int .u8 5, .int .u8 63, .int .u8 55, .int .u8 48, .int .u8 27, .int .u8 60, .int .u8 41, .int .u8 37, .int .u8 16, .int .u8 46, .int .u8 35, .int .u8 44, .int .u8 21, .int .u8 52, .int .u8 32, .int .u8 23, .int .u8 11, .int .u8 54, .int .u8 26, .int .u8 40, .int .u8 15, .int .u8 34, .int .u8 20, .int .u8 31, .int .u8 10, .int .u8 25, .int .u8 14, .int .u8 19, .int .u8 9, .int .u8 13, .int .u8 8, .int .u8 7, .int .u8 6])).modify 3 (setCells #[.int .u64 1, .int .u64 10, .int .u64 100, .int .u64 1000, .int .u64 10000, .int .u64 100000, .int .u64 1000000, .int .u64 10000000, .int .u64 100000000, .int .u64 1000000000, .int .u64 10000000000, .int .u64 100000000000, .int .u64 1000000000000, .int .u64 10000000000000, .int .u64 100000000000000, .int .u64 1000000000000000, .int .u64 10000000000000000, .int .u64 100000000000000000, .int .u64 1000000000000000000, .int .u64 10000000000000000000])).modify 2 (setCells #[.int .u8 128, .int .u8 191, .int .u8 160, .int .u8 191, .int .u8 128, .int .u8 159, .int .u8 144, .int .u8 191, .int .u8 128, .int .u8 143, .int .u8 0, .int .u8 0, .int .u8 0, .int .u8 0, .int .u8 0, .int .u8 0, .int .u8 0, .int .u8 0, .int .u8 0, .int .u8 0, .int .u8 0, .int .u8 0, .int .u8 0, .int .u8 0, .int .u8 0, .int .u8 0, .int .u8 0, .int .u8 0, .int .u8 0, .int .u8 0, .int .u8 0, .int .u8 0])).modify 1 (setCells (Go.Pinned.utf8FirstZ.map fun n => Value.int .u8 (Int.ofNat n)).toArray)) }
theorem laidWorld_met (os : Os) (args : Array Value) : laidMet Tryd.prog lst ((laidWorld os).forCall (fun _ _ => 0) ⟨#[], args, []⟩).memory :=
  laidMet_of_run3 8 (by kernel_rfl) (by kernel_rfl) (by kernel_rfl)

theorem Tryd.laidOut : laidOutB Tryd.prog = true := by kernel_rfl

theorem argsOk1 {W : World} {g : Go.Abs.Gh} {a : Go.Abs.AV} {v : Value} (h : Go.Abs.Rep W g 0 a v) (hs : ∀ s, Go.Abs.SpareOk W g 0 s a v) : Go.Abs.argsOk W g 0 [a] #[v] := by
  refine ⟨rfl, fun i av hi => ?_⟩
  match i, hi with
  | 0, hi => cases hi; exact ⟨_, rfl, h, hs _⟩
theorem argsOk2 {W : World} {g : Go.Abs.Gh} {a b : Go.Abs.AV} {v u : Value} (h : Go.Abs.Rep W g 0 a v) (hs : ∀ s, Go.Abs.SpareOk W g 0 s a v) (h' : Go.Abs.Rep W g 0 b u) (hs' : ∀ s, Go.Abs.SpareOk W g 0 s b u) : Go.Abs.argsOk W g 0 [a, b] #[v, u] := by
  refine ⟨rfl, fun i av hi => ?_⟩
  match i, hi with
  | 0, hi => cases hi; exact ⟨_, rfl, h, hs _⟩
  | 1, hi => cases hi; exact ⟨_, rfl, h', hs' _⟩
end Go.Proofs.YthhhpaifelgcpaaDoor

namespace Go.Abs.Fr
open Go Go.Abs Go.Proofs
set_option linter.unusedSimpArgs false
set_option maxRecDepth 100000

abbrev strl (l : List ByteArray) : AV := .sl .unk (l.map str)
/-- The greatest size there. -/
def mxB : List ByteArray → Nat
  | [] => 0
  | s :: l => max (l.length + 1) (max s.size (mxB l))
theorem mxB_len : ∀ (l : List ByteArray), l.length ≤ mxB l
  | [] => Nat.zero_le _
  | s :: l => by simp only [mxB, List.length_cons]; omega
theorem mxB_mem : ∀ {l : List ByteArray} {s : ByteArray}, s ∈ l → s.size ≤ mxB l
  | x :: l, s, h => by
    rcases List.mem_cons.1 h with rfl | h
    · simp only [mxB]; omega
    · have := mxB_mem h; simp only [mxB]; omega

/-! ### Constraints -/
inductive Con where
  | mk (op lo hi : Int) (low high : Bool) (l : List Con) (ok : InR op ∧ InR lo ∧ InR hi)
def Con.op : Con → Int | .mk a _ _ _ _ _ _ => a
def Con.lo : Con → Int | .mk _ a _ _ _ _ _ => a
def Con.hi : Con → Int | .mk _ _ a _ _ _ _ => a
def Con.low : Con → Bool | .mk _ _ _ a _ _ _ => a
def Con.high : Con → Bool | .mk _ _ _ _ a _ _ => a
def Con.l : Con → List Con | .mk _ _ _ _ _ a _ => a
theorem Con.ok (c : Con) : InR c.op ∧ InR c.lo ∧ InR c.hi := by cases c with | mk o a b c d l h => exact h
mutual
def conv : Con → AV
  | .mk o a b c d l _ => .agg [i64 o, i64 a, i64 b, boolv c, boolv d, .sl .unk (consv l)]
def consv : List Con → List AV
  | [] => []
  | c :: l => conv c :: consv l
end
theorem consv_map : ∀ (l : List Con), consv l = l.map conv
  | [] => rfl
  | s :: l => by simp only [consv, List.map_cons, consv_map l]
abbrev conl (l : List Con) : AV := .sl .unk (l.map conv)
theorem conv_eq (c : Con) : conv c = .agg [i64 c.op, i64 c.lo, i64 c.hi, boolv c.low, boolv c.high, conl c.l] := by
  cases c; simp only [conv, consv_map]; rfl
mutual
def mxC : Con → Nat
  | .mk _ _ _ _ _ l _ => mxCs l
def mxCs : List Con → Nat
  | [] => 0
  | c :: l => max (l.length + 1) (max (mxC c) (mxCs l))
end
theorem mxC_eq (c : Con) : mxC c = mxCs c.l := by cases c; simp only [mxC]; rfl
theorem mxCs_len : ∀ (l : List Con), l.length ≤ mxCs l
  | [] => Nat.zero_le _
  | s :: l => by simp only [mxCs, List.length_cons]; omega
theorem mxCs_mem : ∀ {l : List Con} {s : Con}, s ∈ l → mxC s ≤ mxCs l
  | x :: l, s, h => by
    rcases List.mem_cons.1 h with rfl | h
    · simp only [mxCs]; omega
    · have := mxCs_mem h; simp only [mxCs]; omega
mutual
def szC : Con → Nat
  | .mk _ _ _ _ _ l _ => 1 + szCs l
def szCs : List Con → Nat
  | [] => 0
  | c :: l => szC c + szCs l
end
theorem szC_eq (c : Con) : szC c = 1 + szCs c.l := by cases c; simp only [szC]; rfl
theorem szCs_mem : ∀ {l : List Con} {s : Con}, s ∈ l → szC s ≤ szCs l
  | x :: l, s, h => by
    rcases List.mem_cons.1 h with rfl | h
    · simp only [szCs]; omega
    · have := szCs_mem h; simp only [szCs]; omega
theorem szCs_len : ∀ (l : List Con), l.length ≤ szCs l
  | [] => Nat.zero_le _
  | s :: l => by have := szCs_len l; have := szC_eq s; simp only [szCs, List.length_cons]; omega

/-! ### Values -/
inductive Val where
  | mk (kind n : Int) (s : ByteArray) (names : List ByteArray) (l : List Val) (ok : InR kind ∧ InR n)
def Val.kind : Val → Int | .mk a _ _ _ _ _ => a
def Val.n : Val → Int | .mk _ a _ _ _ _ => a
def Val.s : Val → ByteArray | .mk _ _ a _ _ _ => a
def Val.names : Val → List ByteArray | .mk _ _ _ a _ _ => a
def Val.l : Val → List Val | .mk _ _ _ _ a _ => a
theorem Val.ok (v : Val) : InR v.kind ∧ InR v.n := by cases v with | mk o a b c d h => exact h
mutual
def valv : Val → AV
  | .mk k n s ns l _ => .agg [i64 k, i64 n, str s, strl ns, .sl .unk (valsv l)]
def valsv : List Val → List AV
  | [] => []
  | c :: l => valv c :: valsv l
end
theorem valsv_map : ∀ (l : List Val), valsv l = l.map valv
  | [] => rfl
  | s :: l => by simp only [valsv, List.map_cons, valsv_map l]
abbrev vall (l : List Val) : AV := .sl .unk (l.map valv)
theorem valv_eq (v : Val) : valv v = .agg [i64 v.kind, i64 v.n, str v.s, strl v.names, vall v.l] := by
  cases v; simp only [valv, valsv_map]; rfl
mutual
def mxV : Val → Nat
  | .mk _ _ s ns l _ => max (max s.size (mxB ns)) (mxVs l)
def mxVs : List Val → Nat
  | [] => 0
  | c :: l => max (l.length + 1) (max (mxV c) (mxVs l))
end
theorem mxV_eq (v : Val) : mxV v = max (max v.s.size (mxB v.names)) (mxVs v.l) := by cases v; simp only [mxV]; rfl
theorem mxVs_len : ∀ (l : List Val), l.length ≤ mxVs l
  | [] => Nat.zero_le _
  | s :: l => by simp only [mxVs, List.length_cons]; omega
theorem mxVs_mem : ∀ {l : List Val} {s : Val}, s ∈ l → mxV s ≤ mxVs l
  | x :: l, s, h => by
    rcases List.mem_cons.1 h with rfl | h
    · simp only [mxVs]; omega
    · have := mxVs_mem h; simp only [mxVs]; omega
mutual
def szV : Val → Nat
  | .mk _ _ _ _ l _ => 1 + szVs l
def szVs : List Val → Nat
  | [] => 0
  | c :: l => szV c + szVs l
end
theorem szV_eq (v : Val) : szV v = 1 + szVs v.l := by cases v; simp only [szV]; rfl
theorem szVs_mem : ∀ {l : List Val} {s : Val}, s ∈ l → szV s ≤ szVs l
  | x :: l, s, h => by
    rcases List.mem_cons.1 h with rfl | h
    · simp only [szVs]; omega
    · have := szVs_mem h; simp only [szVs]; omega
theorem szVs_len : ∀ (l : List Val), l.length ≤ szVs l
  | [] => Nat.zero_le _
  | s :: l => by have := szVs_len l; have := szV_eq s; simp only [szVs, List.length_cons]; omega

/-! ### Types -/
mutual
inductive Ty where
  | mk (kind : Int) (name : ByteArray) (con : Con) (ext : Bool) (frm : ByteArray) (names more : List ByteArray) (parts adds : List Prt) (elem : List Ty) (ok : InR kind)
inductive Prt where
  | mk (name : ByteArray) (t : Ty) (opt : Bool) (dfl : List Val)
end
def Ty.kind : Ty → Int | .mk a _ _ _ _ _ _ _ _ _ _ => a
def Ty.name : Ty → ByteArray | .mk _ a _ _ _ _ _ _ _ _ _ => a
def Ty.con : Ty → Con | .mk _ _ a _ _ _ _ _ _ _ _ => a
def Ty.ext : Ty → Bool | .mk _ _ _ a _ _ _ _ _ _ _ => a
def Ty.frm : Ty → ByteArray | .mk _ _ _ _ a _ _ _ _ _ _ => a
def Ty.names : Ty → List ByteArray | .mk _ _ _ _ _ a _ _ _ _ _ => a
def Ty.more : Ty → List ByteArray | .mk _ _ _ _ _ _ a _ _ _ _ => a
def Ty.parts : Ty → List Prt | .mk _ _ _ _ _ _ _ a _ _ _ => a
def Ty.adds : Ty → List Prt | .mk _ _ _ _ _ _ _ _ a _ _ => a
def Ty.elem : Ty → List Ty | .mk _ _ _ _ _ _ _ _ _ a _ => a
theorem Ty.ok (t : Ty) : InR t.kind := by cases t with | mk a b c d e f g h i j k => exact k
def Prt.name : Prt → ByteArray | .mk a _ _ _ => a
def Prt.t : Prt → Ty | .mk _ a _ _ => a
def Prt.opt : Prt → Bool | .mk _ _ a _ => a
def Prt.dfl : Prt → List Val | .mk _ _ _ a => a
mutual
def tyc : Ty → List AV
  | .mk k n c e f ns ms ps ad el _ => [i64 k, str n, i64 c.op, i64 c.lo, i64 c.hi, boolv c.low, boolv c.high, conl c.l, boolv e, str f, strl ns, strl ms, .sl .unk (prtsv ps), .sl .unk (prtsv ad), .sl .unk (tysv el)]
def prtc : Prt → List AV
  | .mk n t o d => str n :: (tyc t ++ [boolv o, vall d])
def prtsv : List Prt → List AV
  | [] => []
  | p :: l => .agg (prtc p) :: prtsv l
def tysv : List Ty → List AV
  | [] => []
  | p :: l => .agg (tyc p) :: tysv l
end
def tyv (t : Ty) : AV := .agg (tyc t)
def prtv (p : Prt) : AV := .agg (prtc p)
theorem prtsv_map : ∀ (l : List Prt), prtsv l = l.map prtv
  | [] => rfl
  | s :: l => by simp only [prtsv, List.map_cons, prtsv_map l, prtv]
theorem tysv_map : ∀ (l : List Ty), tysv l = l.map tyv
  | [] => rfl
  | s :: l => by simp only [tysv, List.map_cons, tysv_map l, tyv]
abbrev prtl (l : List Prt) : AV := .sl .unk (l.map prtv)
abbrev tyl (l : List Ty) : AV := .sl .unk (l.map tyv)
theorem tyc_eq (t : Ty) : tyc t = [i64 t.kind, str t.name, i64 t.con.op, i64 t.con.lo, i64 t.con.hi, boolv t.con.low, boolv t.con.high, conl t.con.l, boolv t.ext, str t.frm, strl t.names, strl t.more, prtl t.parts, prtl t.adds, tyl t.elem] := by
  cases t; simp only [tyc, prtsv_map, tysv_map]; rfl
theorem tyv_eq (t : Ty) : tyv t = .agg [i64 t.kind, str t.name, i64 t.con.op, i64 t.con.lo, i64 t.con.hi, boolv t.con.low, boolv t.con.high, conl t.con.l, boolv t.ext, str t.frm, strl t.names, strl t.more, prtl t.parts, prtl t.adds, tyl t.elem] := by
  unfold tyv; rw [tyc_eq]
theorem prtv_eq (p : Prt) : prtv p = .agg [str p.name, i64 p.t.kind, str p.t.name, i64 p.t.con.op, i64 p.t.con.lo, i64 p.t.con.hi, boolv p.t.con.low, boolv p.t.con.high, conl p.t.con.l, boolv p.t.ext, str p.t.frm, strl p.t.names, strl p.t.more, prtl p.t.parts, prtl p.t.adds, tyl p.t.elem, boolv p.opt, vall p.dfl] := by
  cases p with | mk n t o d => simp only [prtv, prtc, tyc_eq]; rfl
mutual
def mxT : Ty → Nat
  | .mk _ n c _ f ns ms ps ad el _ => max (max (max n.size f.size) (max (mxC c) (max (mxB ns) (mxB ms)))) (max (mxPs ps) (max (mxPs ad) (mxTs el)))
def mxP : Prt → Nat
  | .mk n t _ d => max n.size (max (mxT t) (mxVs d))
def mxPs : List Prt → Nat
  | [] => 0
  | c :: l => max (l.length + 1) (max (mxP c) (mxPs l))
def mxTs : List Ty → Nat
  | [] => 0
  | c :: l => max (l.length + 1) (max (mxT c) (mxTs l))
end
theorem mxT_eq (t : Ty) : mxT t = max (max (max t.name.size t.frm.size) (max (mxC t.con) (max (mxB t.names) (mxB t.more)))) (max (mxPs t.parts) (max (mxPs t.adds) (mxTs t.elem))) := by cases t; simp only [mxT]; rfl
theorem mxP_eq (p : Prt) : mxP p = max p.name.size (max (mxT p.t) (mxVs p.dfl)) := by cases p; simp only [mxP]; rfl
theorem mxPs_len : ∀ (l : List Prt), l.length ≤ mxPs l
  | [] => Nat.zero_le _
  | s :: l => by simp only [mxPs, List.length_cons]; omega
theorem mxPs_mem : ∀ {l : List Prt} {s : Prt}, s ∈ l → mxP s ≤ mxPs l
  | x :: l, s, h => by
    rcases List.mem_cons.1 h with rfl | h
    · simp only [mxPs]; omega
    · have := mxPs_mem h; simp only [mxPs]; omega
theorem mxTs_len : ∀ (l : List Ty), l.length ≤ mxTs l
  | [] => Nat.zero_le _
  | s :: l => by simp only [mxTs, List.length_cons]; omega
theorem mxTs_mem : ∀ {l : List Ty} {s : Ty}, s ∈ l → mxT s ≤ mxTs l
  | x :: l, s, h => by
    rcases List.mem_cons.1 h with rfl | h
    · simp only [mxTs]; omega
    · have := mxTs_mem h; simp only [mxTs]; omega
mutual
def szT : Ty → Nat
  | .mk _ _ _ _ _ _ _ ps ad el _ => 1 + szPs ps + szPs ad + szTs el
def szP : Prt → Nat
  | .mk _ t _ _ => 1 + szT t
def szPs : List Prt → Nat
  | [] => 0
  | c :: l => szP c + szPs l
def szTs : List Ty → Nat
  | [] => 0
  | c :: l => szT c + szTs l
end
theorem szT_eq (t : Ty) : szT t = 1 + szPs t.parts + szPs t.adds + szTs t.elem := by cases t; simp only [szT]; rfl
theorem szP_eq (p : Prt) : szP p = 1 + szT p.t := by cases p; simp only [szP]; rfl
theorem szPs_mem : ∀ {l : List Prt} {s : Prt}, s ∈ l → szP s ≤ szPs l
  | x :: l, s, h => by
    rcases List.mem_cons.1 h with rfl | h
    · simp only [szPs]; omega
    · have := szPs_mem h; simp only [szPs]; omega
theorem szTs_mem : ∀ {l : List Ty} {s : Ty}, s ∈ l → szT s ≤ szTs l
  | x :: l, s, h => by
    rcases List.mem_cons.1 h with rfl | h
    · simp only [szTs]; omega
    · have := szTs_mem h; simp only [szTs]; omega
theorem szPs_len : ∀ (l : List Prt), l.length ≤ szPs l
  | [] => Nat.zero_le _
  | s :: l => by have := szPs_len l; have := szP_eq s; simp only [szPs, List.length_cons]; omega
theorem szTs_len : ∀ (l : List Ty), l.length ≤ szTs l
  | [] => Nat.zero_le _
  | s :: l => by have := szTs_len l; have := szT_eq s; simp only [szTs, List.length_cons]; omega

theorem mxV_le (v : Val) : v.s.size ≤ mxV v ∧ mxB v.names ≤ mxV v ∧ mxVs v.l ≤ mxV v := by have := mxV_eq v; omega
theorem mxT_le (t : Ty) : t.name.size ≤ mxT t ∧ t.frm.size ≤ mxT t ∧ mxC t.con ≤ mxT t ∧ mxB t.names ≤ mxT t ∧ mxB t.more ≤ mxT t ∧ mxPs t.parts ≤ mxT t ∧ mxPs t.adds ≤ mxT t ∧ mxTs t.elem ≤ mxT t := by have := mxT_eq t; omega
theorem mxP_le (p : Prt) : p.name.size ≤ mxP p ∧ mxT p.t ≤ mxP p ∧ mxVs p.dfl ≤ mxP p := by have := mxP_eq p; omega

/-! ### Modules -/
structure Imp where
  names : List ByteArray
  frm : ByteArray
structure Dfn where
  name : ByteArray
  t : Ty
structure Mod where
  name : ByteArray
  auto : Bool
  imports : List Imp
  defs : List Dfn
def impv (i : Imp) : AV := .agg [strl i.names, str i.frm]
def dfnv (d : Dfn) : AV := .agg [str d.name, i64 d.t.kind, str d.t.name, i64 d.t.con.op, i64 d.t.con.lo, i64 d.t.con.hi, boolv d.t.con.low, boolv d.t.con.high, conl d.t.con.l, boolv d.t.ext, str d.t.frm, strl d.t.names, strl d.t.more, prtl d.t.parts, prtl d.t.adds, tyl d.t.elem]
def modv (m : Mod) : AV := .agg [str m.name, boolv m.auto, .sl .unk (m.imports.map impv), .sl .unk (m.defs.map dfnv)]
abbrev impl (l : List Imp) : AV := .sl .unk (l.map impv)
abbrev dfnl (l : List Dfn) : AV := .sl .unk (l.map dfnv)
end Go.Abs.Fr

namespace Go.Abs.Fr
open Go Go.Abs Go.Proofs Go.RowKit
set_option linter.unusedSimpArgs false
set_option maxRecDepth 100000

section
variable {H : Type} {enc : TypeId × Value → H} {W : World}

theorem u4 : E0.P.underlying 4 = some .bool := by kernel_rfl
theorem u3 : E0.P.underlying 3 = some (.int .i64) := by kernel_rfl
theorem u9 : E0.P.underlying 9 = some .string := by kernel_rfl
theorem wf_i64 {n : Int} (h : (Lit.int .i64 n).wf = true) : InR n := by
  rw [show (Lit.int .i64 n).wf = (decide (-9223372036854775808 ≤ n) && decide (n ≤ 9223372036854775807)) from rfl, Bool.and_eq_true, decide_eq_true_eq, decide_eq_true_eq] at h
  exact h
theorem uCons : E0.P.underlying 22 = some (.slice 24) := by kernel_rfl
theorem sCon : onesIs E0.P 24 [3, 3, 3, 4, 4, 22] = true := by kernel_rfl
theorem kCon : 0 < E0.P.cellsOf 24 ∧ 0 < E0.P.bytesOf 24 := ⟨of_decide_eq_true (by kernel_rfl), of_decide_eq_true (by kernel_rfl)⟩
theorem list6 {cs : List Value} {a b c d e f : Value} (hl : cs.length = 6) (h0 : cs[0]? = some a) (h1 : cs[1]? = some b) (h2 : cs[2]? = some c) (h3 : cs[3]? = some d) (h4 : cs[4]? = some e) (h5 : cs[5]? = some f) : cs = [a, b, c, d, e, f] := by
  match cs, hl with
  | [x, y, z, u, v, w], _ => simp at h0 h1 h2 h3 h4 h5; subst h0 h1 h2 h3 h4 h5; rfl
theorem mxCs_of {M : Nat} : ∀ {l : List Con}, l.length ≤ M → (∀ a, a ∈ l → mxC a ≤ M) → mxCs l ≤ M
  | [], _, _ => by simp [mxCs]
  | a :: l, h, h2 => by
    have h3 := h2 a (List.mem_cons_self ..)
    have h4 := mxCs_of (l := l) (by simp at h; omega) (fun b hb => h2 b (List.mem_cons_of_mem _ hb))
    simp only [List.length_cons] at h
    simp only [mxCs]; omega
theorem rd_con_of {m : Nat} (ih : RdAt enc E0.P W m 22 (fun l : List Con => .sl .unk (l.map conv)) (fun l => mxCs l ≤ reachBytes)) : RdAt enc E0.P W (m + 1) 24 conv (fun s => mxC s ≤ reachBytes) := fun cs x h hw => by
  obtain ⟨m', hm, hl, hf⟩ := trod_ones sCon h hw
  obtain rfl : m = m' := Nat.succ.inj hm
  obtain ⟨c0, y0, e0, t0, w0⟩ := hf 0 3 rfl
  obtain ⟨c1, y1, e1, t1, w1⟩ := hf 1 3 rfl
  obtain ⟨c2, y2, e2, t2, w2⟩ := hf 2 3 rfl
  obtain ⟨c3, y3, e3, t3, w3⟩ := hf 3 4 rfl
  obtain ⟨c4, y4, e4, t4, w4⟩ := hf 4 4 rfl
  obtain ⟨c5, y5, e5, t5, w5⟩ := hf 5 22 rfl
  obtain ⟨k0, hk0, r0⟩ := (RdAt.int u3).one (fun _ => ⟨rfl, rfl⟩) t0 w0
  obtain ⟨k1, hk1, r1⟩ := (RdAt.int u3).one (fun _ => ⟨rfl, rfl⟩) t1 w1
  obtain ⟨k2, hk2, r2⟩ := (RdAt.int u3).one (fun _ => ⟨rfl, rfl⟩) t2 w2
  obtain ⟨b3, -, r3⟩ := (RdAt.bool u4).one (fun _ => ⟨rfl, rfl⟩) t3 w3
  obtain ⟨b4, -, r4⟩ := (RdAt.bool u4).one (fun _ => ⟨rfl, rfl⟩) t4 w4
  obtain ⟨l, hlx, r5⟩ := ih.one (fun _ => ⟨rfl, rfl⟩) t5 w5
  refine ⟨.mk k0 k1 k2 b3 b4 l ⟨wf_i64 hk0, wf_i64 hk1, wf_i64 hk2⟩, by simp only [mxC]; exact hlx, .agg #[c0, c1, c2, c3, c4, c5], (list6 hl e0 e1 e2 e3 e4 e5).symm, ?_⟩
  rw [conv_eq]
  simp only [Rep]
  exact ⟨_, rfl, Reps.cons'.2 ⟨r0, Reps.cons'.2 ⟨r1, Reps.cons'.2 ⟨r2, Reps.cons'.2 ⟨r3, Reps.cons'.2 ⟨r4, Reps.cons'.2 ⟨r5, Reps.nil.2 rfl⟩⟩⟩⟩⟩⟩⟩
theorem rd_cons : ∀ (n : Nat), RdAt enc E0.P W n 22 (fun l : List Con => .sl .unk (l.map conv)) (fun l => mxCs l ≤ reachBytes)
  | 0 => RdAt.zero
  | 1 => (RdAt.slice (ok := fun s => mxC s ≤ reachBytes) uCons kCon.1 kCon.2 RdAt.zero).mono fun l h => mxCs_of h.1 h.2
  | n + 2 => (RdAt.slice uCons kCon.1 kCon.2 (rd_con_of (rd_cons n))).mono fun l h => mxCs_of h.1 h.2
theorem rd_con : ∀ (n : Nat), RdAt enc E0.P W n 24 conv (fun s => mxC s ≤ reachBytes)
  | 0 => RdAt.zero
  | n + 1 => rd_con_of (rd_cons n)
end
end Go.Abs.Fr

namespace Go.Abs.Fr
open Go Go.Abs Go.Proofs Go.RowKit
set_option linter.unusedSimpArgs false
set_option maxRecDepth 100000

section
variable {H : Type} {enc : TypeId × Value → H} {W : World}

def fieldsIs (P : Program) (t : TypeId) (tot : Nat) (l : List (TypeId × Nat × Nat)) : Bool :=
  match P.underlying t with
  | some (.struct fs) => decide (fs.toList.map (fun f => (f.type, f.offset, P.cellsOf f.type)) = l) && decide (P.cellsOf t = tot)
  | _ => false
theorem trod_fields {P : Program} {n tot : Nat} {t : TypeId} {l : List (TypeId × Nat × Nat)} (hs : fieldsIs P t tot l = true) {cs : List Value} {x : DataW H × List MemPlace} (h : DataW.trod enc P W 0 (fun _ => true) true n t cs = some x)
    (hw : (x.1.weights P t).all (· ≤ reachBytes) = true) :
    ∃ m, n = m + 1 ∧ cs.length = tot ∧ ∀ (i : Nat) ft off sz, l[i]? = some (ft, off, sz) → ∃ y, DataW.trod enc P W 0 (fun _ => true) true m ft ((cs.drop off).take sz) = some y ∧ (y.1.weights P ft).all (· ≤ reachBytes) = true := by
  unfold fieldsIs at hs
  split at hs
  · rename_i fs hu
    rw [Bool.and_eq_true, decide_eq_true_eq, decide_eq_true_eq] at hs
    obtain ⟨hf, hct⟩ := hs
    obtain ⟨xs, m, rfl, rfl, hcl, hxl, hget⟩ := DataW.trod_struct hu h
    refine ⟨m, rfl, by rw [hcl, hct], fun i ft off sz hi => ?_⟩
    have hfi := congrArg (fun l => l[i]?) hf
    simp only [List.getElem?_map, hi] at hfi
    obtain ⟨f, hff, hfe⟩ := Option.map_eq_some_iff.1 hfi
    simp only [Prod.mk.injEq] at hfe
    obtain ⟨h1, h2, h3⟩ := hfe
    have hg := hget i f (by simpa using hff)
    rw [h3, h1, h2] at hg
    have hfl := (List.getElem?_eq_some_iff.1 hff).1
    obtain ⟨y, hy⟩ : ∃ y, xs[i]? = some y := ⟨_, List.getElem?_eq_getElem (by rw [hxl]; simpa using hfl)⟩
    rw [hy] at hg
    refine ⟨y, hg, ?_⟩
    simp only [DataW.weights, hu] at hw
    exact weightsEach_get hw (i := i) (by rw [List.getElem?_map, hff, Option.map_some, h1]) (by rw [List.getElem?_map, hy]; rfl)
  · cases hs
/-- A field, of whatever size. -/
theorem rd_piece {P : Program} {m : Nat} {t : TypeId} {α : Type} {av : α → AV} {ok : α → Prop} (h : RdAt enc P W m t av ok) (hs : ∀ a, (av a).sure = true) {c : List Value} {y : DataW H × List MemPlace}
    (hc : DataW.trod enc P W 0 (fun _ => true) true m t c = some y) (hw : (y.1.weights P t).all (· ≤ reachBytes) = true) : ∃ a, ok a ∧ Reps W (Gh.all W) 0 (av a).cells c := by
  obtain ⟨a, h1, v, hv, hr⟩ := h _ _ hc hw
  have := Rep.cells (hs a) hr
  rw [hv] at this
  exact ⟨a, h1, this⟩
theorem reps_glue {g : Gh} {n off sz : Nat} {a b : List AV} {cs : List Value} (h : Reps W g n a ((cs.drop off).take sz)) (h2 : Reps W g n b (cs.drop (off + sz))) : Reps W g n (a ++ b) (cs.drop off) := by
  rw [← List.take_append_drop sz (cs.drop off), List.drop_drop]
  exact Reps.append h h2

theorem uStrs : E0.P.underlying 25 = some (.slice 9) := by kernel_rfl
theorem kStr : 0 < E0.P.cellsOf 9 ∧ 0 < E0.P.bytesOf 9 := ⟨of_decide_eq_true (by kernel_rfl), of_decide_eq_true (by kernel_rfl)⟩
theorem mxB_of {M : Nat} : ∀ {l : List ByteArray}, l.length ≤ M → (∀ a, a ∈ l → a.size ≤ M) → mxB l ≤ M
  | [], _, _ => by simp [mxB]
  | a :: l, h, h2 => by
    have h3 := h2 a (List.mem_cons_self ..)
    have h4 := mxB_of (l := l) (by simp at h; omega) (fun b hb => h2 b (List.mem_cons_of_mem _ hb))
    simp only [List.length_cons] at h
    simp only [mxB]; omega
theorem rd_strs : ∀ (n : Nat), RdAt enc E0.P W n 25 (fun l : List ByteArray => .sl .unk (l.map str)) (fun l => mxB l ≤ reachBytes)
  | 0 => RdAt.zero
  | n + 1 => (RdAt.slice uStrs kStr.1 kStr.2 (RdAt.string u9)).mono fun l h => mxB_of h.1 h.2

theorem uVals : E0.P.underlying 34 = some (.slice 40) := by kernel_rfl
theorem sVal : onesIs E0.P 40 [3, 3, 9, 25, 34] = true := by kernel_rfl
theorem kVal : 0 < E0.P.cellsOf 40 ∧ 0 < E0.P.bytesOf 40 := ⟨of_decide_eq_true (by kernel_rfl), of_decide_eq_true (by kernel_rfl)⟩
theorem list5 {cs : List Value} {a b c d e : Value} (hl : cs.length = 5) (h0 : cs[0]? = some a) (h1 : cs[1]? = some b) (h2 : cs[2]? = some c) (h3 : cs[3]? = some d) (h4 : cs[4]? = some e) : cs = [a, b, c, d, e] := by
  match cs, hl with
  | [x, y, z, u, v], _ => simp at h0 h1 h2 h3 h4; subst h0 h1 h2 h3 h4; rfl
theorem mxVs_of {M : Nat} : ∀ {l : List Val}, l.length ≤ M → (∀ a, a ∈ l → mxV a ≤ M) → mxVs l ≤ M
  | [], _, _ => by simp [mxVs]
  | a :: l, h, h2 => by
    have h3 := h2 a (List.mem_cons_self ..)
    have h4 := mxVs_of (l := l) (by simp at h; omega) (fun b hb => h2 b (List.mem_cons_of_mem _ hb))
    simp only [List.length_cons] at h
    simp only [mxVs]; omega
theorem rd_val_of {m : Nat} (ih : RdAt enc E0.P W m 34 (fun l : List Val => .sl .unk (l.map valv)) (fun l => mxVs l ≤ reachBytes)) : RdAt enc E0.P W (m + 1) 40 valv (fun s => mxV s ≤ reachBytes) := fun cs x h hw => by
  obtain ⟨m', hm, hl, hf⟩ := trod_ones sVal h hw
  obtain rfl : m = m' := Nat.succ.inj hm
  obtain ⟨c0, y0, e0, t0, w0⟩ := hf 0 3 rfl
  obtain ⟨c1, y1, e1, t1, w1⟩ := hf 1 3 rfl
  obtain ⟨c2, y2, e2, t2, w2⟩ := hf 2 9 rfl
  obtain ⟨c3, y3, e3, t3, w3⟩ := hf 3 25 rfl
  obtain ⟨c4, y4, e4, t4, w4⟩ := hf 4 34 rfl
  obtain ⟨k0, hk0, r0⟩ := (RdAt.int u3).one (fun _ => ⟨rfl, rfl⟩) t0 w0
  obtain ⟨k1, hk1, r1⟩ := (RdAt.int u3).one (fun _ => ⟨rfl, rfl⟩) t1 w1
  obtain ⟨s2, hs2, r2⟩ := (RdAt.string u9).one (fun _ => ⟨rfl, rfl⟩) t2 w2
  obtain ⟨l3, hl3, r3⟩ := (rd_strs m).one (fun _ => ⟨rfl, rfl⟩) t3 w3
  obtain ⟨l, hlx, r4⟩ := ih.one (fun _ => ⟨rfl, rfl⟩) t4 w4
  refine ⟨.mk k0 k1 s2 l3 l ⟨wf_i64 hk0, wf_i64 hk1⟩, by simp only [mxV]; omega, .agg #[c0, c1, c2, c3, c4], (list5 hl e0 e1 e2 e3 e4).symm, ?_⟩
  rw [valv_eq]
  simp only [Rep]
  exact ⟨_, rfl, Reps.cons'.2 ⟨r0, Reps.cons'.2 ⟨r1, Reps.cons'.2 ⟨r2, Reps.cons'.2 ⟨r3, Reps.cons'.2 ⟨r4, Reps.nil.2 rfl⟩⟩⟩⟩⟩⟩
theorem rd_vals : ∀ (n : Nat), RdAt enc E0.P W n 34 (fun l : List Val => .sl .unk (l.map valv)) (fun l => mxVs l ≤ reachBytes)
  | 0 => RdAt.zero
  | 1 => (RdAt.slice (ok := fun s => mxV s ≤ reachBytes) uVals kVal.1 kVal.2 RdAt.zero).mono fun l h => mxVs_of h.1 h.2
  | n + 2 => (RdAt.slice uVals kVal.1 kVal.2 (rd_val_of (rd_vals n))).mono fun l h => mxVs_of h.1 h.2

theorem uTys : E0.P.underlying 27 = some (.slice 29) := by kernel_rfl
theorem uPrts : E0.P.underlying 26 = some (.slice 36) := by kernel_rfl
theorem kTy : 0 < E0.P.cellsOf 29 ∧ 0 < E0.P.bytesOf 29 := ⟨of_decide_eq_true (by kernel_rfl), of_decide_eq_true (by kernel_rfl)⟩
theorem kPrt : 0 < E0.P.cellsOf 36 ∧ 0 < E0.P.bytesOf 36 := ⟨of_decide_eq_true (by kernel_rfl), of_decide_eq_true (by kernel_rfl)⟩
theorem sTy : fieldsIs E0.P 29 15 [(3, 0, 1), (9, 1, 1), (24, 2, 6), (4, 8, 1), (9, 9, 1), (25, 10, 1), (25, 11, 1), (26, 12, 1), (26, 13, 1), (27, 14, 1)] = true := by kernel_rfl
theorem sPrt : fieldsIs E0.P 36 18 [(9, 0, 1), (29, 1, 15), (4, 16, 1), (34, 17, 1)] = true := by kernel_rfl
theorem mxTs_of {M : Nat} : ∀ {l : List Ty}, l.length ≤ M → (∀ a, a ∈ l → mxT a ≤ M) → mxTs l ≤ M
  | [], _, _ => by simp [mxTs]
  | a :: l, h, h2 => by
    have h3 := h2 a (List.mem_cons_self ..)
    have h4 := mxTs_of (l := l) (by simp at h; omega) (fun b hb => h2 b (List.mem_cons_of_mem _ hb))
    simp only [List.length_cons] at h
    simp only [mxTs]; omega
theorem mxPs_of {M : Nat} : ∀ {l : List Prt}, l.length ≤ M → (∀ a, a ∈ l → mxP a ≤ M) → mxPs l ≤ M
  | [], _, _ => by simp [mxPs]
  | a :: l, h, h2 => by
    have h3 := h2 a (List.mem_cons_self ..)
    have h4 := mxPs_of (l := l) (by simp at h; omega) (fun b hb => h2 b (List.mem_cons_of_mem _ hb))
    simp only [List.length_cons] at h
    simp only [mxPs]; omega
theorem conv_sure (c : Con) : (conv c).sure = true := by rw [conv_eq]; rfl
theorem rd_ty_of {m : Nat} (ihP : RdAt enc E0.P W m 26 (fun l : List Prt => .sl .unk (l.map prtv)) (fun l => mxPs l ≤ reachBytes)) (ihT : RdAt enc E0.P W m 27 (fun l : List Ty => .sl .unk (l.map tyv)) (fun l => mxTs l ≤ reachBytes)) :
    RdAt enc E0.P W (m + 1) 29 tyv (fun s => mxT s ≤ reachBytes) := fun cs x h hw => by
  obtain ⟨m', hm, hl, hf⟩ := trod_fields sTy h hw
  obtain rfl : m = m' := Nat.succ.inj hm
  obtain ⟨y0, t0, w0⟩ := hf 0 _ _ _ rfl
  obtain ⟨y1, t1, w1⟩ := hf 1 _ _ _ rfl
  obtain ⟨y2, t2, w2⟩ := hf 2 _ _ _ rfl
  obtain ⟨y3, t3, w3⟩ := hf 3 _ _ _ rfl
  obtain ⟨y4, t4, w4⟩ := hf 4 _ _ _ rfl
  obtain ⟨y5, t5, w5⟩ := hf 5 _ _ _ rfl
  obtain ⟨y6, t6, w6⟩ := hf 6 _ _ _ rfl
  obtain ⟨y7, t7, w7⟩ := hf 7 _ _ _ rfl
  obtain ⟨y8, t8, w8⟩ := hf 8 _ _ _ rfl
  obtain ⟨y9, t9, w9⟩ := hf 9 _ _ _ rfl
  obtain ⟨a0, k0, r0⟩ := rd_piece (RdAt.int u3) (fun _ => rfl) t0 w0
  obtain ⟨a1, k1, r1⟩ := rd_piece (RdAt.string u9) (fun _ => rfl) t1 w1
  obtain ⟨a2, k2, r2⟩ := rd_piece (rd_con m) conv_sure t2 w2
  obtain ⟨a3, k3, r3⟩ := rd_piece (RdAt.bool u4) (fun _ => rfl) t3 w3
  obtain ⟨a4, k4, r4⟩ := rd_piece (RdAt.string u9) (fun _ => rfl) t4 w4
  obtain ⟨a5, k5, r5⟩ := rd_piece (rd_strs m) (fun _ => rfl) t5 w5
  obtain ⟨a6, k6, r6⟩ := rd_piece (rd_strs m) (fun _ => rfl) t6 w6
  obtain ⟨a7, k7, r7⟩ := rd_piece ihP (fun _ => rfl) t7 w7
  obtain ⟨a8, k8, r8⟩ := rd_piece ihP (fun _ => rfl) t8 w8
  obtain ⟨a9, k9, r9⟩ := rd_piece ihT (fun _ => rfl) t9 w9
  have e : Reps W (Gh.all W) 0 [] (cs.drop 15) := by rw [List.drop_eq_nil_of_le (by omega)]; exact Reps.nil.2 rfl
  have g := reps_glue r0 <| reps_glue r1 <| reps_glue r2 <| reps_glue r3 <| reps_glue r4 <| reps_glue r5 <| reps_glue r6 <| reps_glue r7 <| reps_glue r8 <| reps_glue r9 e
  rw [List.drop_zero] at g
  refine ⟨.mk a0 a1 a2 a3 a4 a5 a6 a7 a8 a9 (wf_i64 k0), by simp only [mxT]; omega, .agg cs.toArray, by simp [Value.cells], ?_⟩
  rw [tyv_eq]
  simp only [Rep]
  refine ⟨_, rfl, ?_⟩
  rw [conv_eq] at g
  exact g
theorem rd_prt_of {m : Nat} (ihT : RdAt enc E0.P W m 29 tyv (fun s => mxT s ≤ reachBytes)) :
    RdAt enc E0.P W (m + 1) 36 prtv (fun s => mxP s ≤ reachBytes) := fun cs x h hw => by
  obtain ⟨m', hm, hl, hf⟩ := trod_fields sPrt h hw
  obtain rfl : m = m' := Nat.succ.inj hm
  obtain ⟨y0, t0, w0⟩ := hf 0 _ _ _ rfl
  obtain ⟨y1, t1, w1⟩ := hf 1 _ _ _ rfl
  obtain ⟨y2, t2, w2⟩ := hf 2 _ _ _ rfl
  obtain ⟨y3, t3, w3⟩ := hf 3 _ _ _ rfl
  obtain ⟨a0, k0, r0⟩ := rd_piece (RdAt.string u9) (fun _ => rfl) t0 w0
  obtain ⟨a1, k1, r1⟩ := rd_piece ihT (fun a => by rw [tyv_eq]; rfl) t1 w1
  obtain ⟨a2, k2, r2⟩ := rd_piece (RdAt.bool u4) (fun _ => rfl) t2 w2
  obtain ⟨a3, k3, r3⟩ := rd_piece (rd_vals m) (fun _ => rfl) t3 w3
  have e : Reps W (Gh.all W) 0 [] (cs.drop 18) := by rw [List.drop_eq_nil_of_le (by omega)]; exact Reps.nil.2 rfl
  have g := reps_glue r0 <| reps_glue r1 <| reps_glue r2 <| reps_glue r3 e
  rw [List.drop_zero] at g
  refine ⟨.mk a0 a1 a2 a3, by simp only [mxP]; omega, .agg cs.toArray, by simp [Value.cells], ?_⟩
  rw [prtv_eq]
  simp only [Rep]
  refine ⟨_, rfl, ?_⟩
  rw [tyv_eq] at g
  exact g
theorem rd_all : ∀ (n : Nat), (RdAt enc E0.P W n 29 tyv (fun s => mxT s ≤ reachBytes) ∧ RdAt enc E0.P W n 36 prtv (fun s => mxP s ≤ reachBytes)) ∧
    RdAt enc E0.P W n 26 (fun l : List Prt => .sl .unk (l.map prtv)) (fun l => mxPs l ≤ reachBytes) ∧ RdAt enc E0.P W n 27 (fun l : List Ty => .sl .unk (l.map tyv)) (fun l => mxTs l ≤ reachBytes)
  | 0 => ⟨⟨RdAt.zero, RdAt.zero⟩, RdAt.zero, RdAt.zero⟩
  | n + 1 => by
    obtain ⟨⟨h1, h2⟩, h3, h4⟩ := rd_all n
    exact ⟨⟨rd_ty_of h3 h4, rd_prt_of h1⟩, (RdAt.slice uPrts kPrt.1 kPrt.2 h2).mono fun l h => mxPs_of h.1 h.2, (RdAt.slice uTys kTy.1 kTy.2 h1).mono fun l h => mxTs_of h.1 h.2⟩
end
end Go.Abs.Fr

namespace Go.Abs.Fr
open Go Go.Abs Go.Proofs
set_option linter.unusedSimpArgs false
set_option maxRecDepth 100000

/-- spandrel/token.Lower -/
def ac53 : ACode := (.seq (.region [⟨(some 2), (.move (.const (.bool false))), none⟩]) (.seq (.region [⟨(some 3), (.move (.tmp 0)), none⟩, ⟨(some 4), (.call (.func 64) [((.tmp 3), false)]), none⟩, ⟨(some 5), (.move (.tmp 4)), none⟩, ⟨(some 6), (.move (.tmp 0)), (some (5, true))⟩, ⟨(some 7), (.indexS (.tmp 6) (.const (.int .i64 0))), (some (5, true))⟩, ⟨(some 8), (.bin .geq (.tmp 7) (.const (.int .u8 97))), (some (5, true))⟩, ⟨(some 9), (.pick (.tmp 5) (.tmp 8) (.const (.bool false))), none⟩, ⟨(some 2), (.move (.tmp 9)), none⟩]) .ret))
theorem c53 : cfn E0.P [] Tryd.f53 = some (ac53, [(.tmp 2)], 10) := by kernel_rfl
/-- spandrel/token.Upper -/
def ac57 : ACode := (.seq (.region [⟨(some 2), (.move (.const (.bool false))), none⟩]) (.seq (.region [⟨(some 3), (.move (.tmp 0)), none⟩, ⟨(some 4), (.call (.func 64) [((.tmp 3), false)]), none⟩, ⟨(some 5), (.move (.tmp 4)), none⟩, ⟨(some 6), (.move (.tmp 0)), (some (5, true))⟩, ⟨(some 7), (.indexS (.tmp 6) (.const (.int .i64 0))), (some (5, true))⟩, ⟨(some 8), (.bin .lss (.tmp 7) (.const (.int .u8 97))), (some (5, true))⟩, ⟨(some 9), (.pick (.tmp 5) (.tmp 8) (.const (.bool false))), none⟩, ⟨(some 2), (.move (.tmp 9)), none⟩]) .ret))
theorem c57 : cfn E0.P [] Tryd.f57 = some (ac57, [(.tmp 2)], 10) := by kernel_rfl
/-- spandrel/token.whole -/
def ac64 : ACode := (.seq (.region [⟨(some 2), (.move (.const (.bool false))), none⟩]) (.seq (.region [⟨(some 6), (.move (.tmp 0)), none⟩, ⟨(some 7), (.toBytes (.tmp 6)), none⟩, ⟨(some 8), (.build [(.sl .full []), (.lit (.int .i64 0))] [(0, (1, (.tmp 7)))]), none⟩, ⟨(some 9), (.build [(.sl .full []), (.lit (.int .i64 0))] [(0, (2, (.tmp 8)))]), none⟩, ⟨(some 10), (.box (.tmp 9)), none⟩, ⟨(some 3), (.move (.tmp 10)), none⟩]) (.seq (.seq (.region [⟨(some 11), (.move (.tmp 3)), none⟩, ⟨(some 12), (.nilCheck (.tmp 11)), none⟩, ⟨(some 13), (.fieldAddr 0 (.tmp 12)), none⟩, ⟨(some 14), (.call (.func 71) [((.tmp 13), false), ((.const (.int .i64 0)), false)]), none⟩, ⟨(some 15), (.call (.func 70) [((.tmp 14), false)]), none⟩, ⟨(some 16), (.un .not (.tmp 15)), none⟩]) (.cond (.tmp 16) (.seq (.region [⟨(some 2), (.move (.const (.bool false))), none⟩]) .ret) .skip)) (.seq (.region [⟨(some 18), (.move (.tmp 3)), none⟩, ⟨(some 19), (.call (.func 72) [((.tmp 18), false)]), none⟩, ⟨(some 17), (.move (.tmp 19)), none⟩, ⟨(some 20), (.extract (.tmp 17) 0), none⟩, ⟨(some 21), (.extract (.tmp 17) 1), none⟩, ⟨(some 4), (.move (.tmp 20)), none⟩, ⟨(some 5), (.move (.tmp 21)), none⟩]) (.seq (.region [⟨(some 22), (.move (.tmp 5)), none⟩, ⟨(some 23), (.move (.tmp 22)), none⟩, ⟨(some 24), (.move (.tmp 4)), (some (23, true))⟩, ⟨(some 25), (.move (.tmp 0)), (some (23, true))⟩, ⟨(some 26), (.len true (.tmp 25)), (some (23, true))⟩, ⟨(some 27), (.bin .eql (.tmp 24) (.tmp 26)), (some (23, true))⟩, ⟨(some 28), (.pick (.tmp 23) (.tmp 27) (.const (.bool false))), none⟩, ⟨(some 2), (.move (.tmp 28)), none⟩]) .ret)))))
theorem c64 : cfn E0.P [] Tryd.f64 = some (ac64, [(.tmp 2)], 29) := by kernel_rfl

/-- Is a text one word? -/
def whl (b : List UInt8) : Bool := isLet (pk b 0) && (wl (fun k => pk b k) (b.length + 1) 1).2 && decide ((wl (fun k => pk b k) (b.length + 1) 1).1 = b.length)

theorem whole_ev (s : ByteArray) (h : List AObj) (hsz : s.size < 2 ^ 60) : EvR E0 64 [.lit (.string s)] h (boolv (whl s.data.toList)) := by
  refine ev_of (fn := Tryd.f64) (hs := []) Tryd.func64 c64 (by simp) fun hcl => ?_
  have hlen : s.data.toList.length = s.size := by simp
  simp only [ac64, ↓awD, awP, Nat.reduceLeDiff, Nat.reduceEqDiff, Nat.reduceAdd, Nat.zero_add, Int.cast_ofNat_Int, Int.reduceLT, Int.reduceLE, Int.reduceEq]
  refine Need.mk (by omega) ?_
  simp only [↓awD, awP, Nat.reduceLeDiff, Nat.reduceEqDiff, Nat.reduceAdd, Nat.zero_add, Int.cast_ofNat_Int, Int.reduceLT, Int.reduceLE, Int.reduceEq]
  have hs := last_obj h (txt s.data.toList 0)
  refine EvF.ret (peek_ev (k := 0) hs (by omega)) ?_
  simp only [↓awD, awP, Nat.reduceLeDiff, Nat.reduceEqDiff, Nat.reduceAdd, Nat.zero_add, Int.cast_ofNat_Int, Int.reduceLT, Int.reduceLE, Int.reduceEq]
  refine EvF.ret (letter_ev _ _) ?_
  cases hl : isLet (pk s.data.toList (0 + 0))
  · simp only [↓awD, awP, Nat.reduceLeDiff, Nat.reduceEqDiff, Nat.reduceAdd, Nat.zero_add, Int.cast_ofNat_Int, Int.reduceLT, Int.reduceLE, Int.reduceEq]
    have hl' : isLet (pk s.data.toList 0) = false := hl
    exact Fin.same hcl (by simp [AV.under]) ⟨by simp [whl, hl'], rfl⟩
  have hl' : isLet (pk s.data.toList 0) = true := hl
  simp only [↓awD, awP, Nat.reduceLeDiff, Nat.reduceEqDiff, Nat.reduceAdd, Nat.zero_add, Int.cast_ofNat_Int, Int.reduceLT, Int.reduceLE, Int.reduceEq]
  refine EvF.ret (word_ev hs (by omega)) ?_
  have e0 : (fun k => pk s.data.toList (0 + k)) = (fun k => pk s.data.toList k) := by funext k; rw [Nat.zero_add]
  rw [e0, hlen]
  generalize hR : wl (fun k => pk s.data.toList k) (s.size + 1) 1 = R
  obtain ⟨n, ok⟩ := R
  cases ok
  · simp only [↓awD, awP, Nat.reduceLeDiff, Nat.reduceEqDiff, Nat.reduceAdd, Nat.zero_add, Int.cast_ofNat_Int, Int.reduceLT, Int.reduceLE, Int.reduceEq]
    exact Fin.same hcl (by simp [AV.under]) ⟨by simp [whl, hl', hR], rfl⟩
  · simp only [↓awD, awP, Nat.reduceLeDiff, Nat.reduceEqDiff, Nat.reduceAdd, Nat.zero_add, Int.cast_ofNat_Int, Int.reduceLT, Int.reduceLE, Int.reduceEq]
    refine Fin.same hcl (by simp [AV.under]) ⟨?_, rfl⟩
    simp only [whl, hl', hlen, hR, Bool.true_and, boolv]
    congr 4
    simp
    omega

/-- A text's first character. -/
def lt97 (c : UInt8) : Bool := decide ((c.toNat : Int) < 97)

theorem pos_of {s : ByteArray} (hw : whl s.data.toList = true) : (0 : Int) < (s.size : Int) := by
  rcases Nat.eq_zero_or_pos s.size with h0 | h0
  · have : s.data.toList = [] := List.length_eq_zero_iff.1 (by simpa using h0)
    rw [this] at hw
    exact absurd hw (by decide)
  · omega

theorem upper_ev (s : ByteArray) (h : List AObj) (hsz : s.size < 2 ^ 60) : EvR E0 57 [.lit (.string s)] h (boolv (whl s.data.toList && lt97 (pk s.data.toList 0))) := by
  refine ev_of (fn := Tryd.f57) (hs := []) Tryd.func57 c57 (by simp) fun hcl => ?_
  simp only [ac57, ↓awD, awP, Nat.reduceLeDiff, Nat.reduceEqDiff, Nat.reduceAdd, Nat.zero_add, Int.cast_ofNat_Int, Int.reduceLT, Int.reduceLE, Int.reduceEq]
  refine EvF.ret (whole_ev s h hsz) ?_
  cases hw : whl s.data.toList
  · simp only [↓awD, awP, Nat.reduceLeDiff, Nat.reduceEqDiff, Nat.reduceAdd, Nat.zero_add, Int.cast_ofNat_Int, Int.reduceLT, Int.reduceLE, Int.reduceEq]
    exact Fin.same0 hcl (by simp [AV.under]) ⟨by simp, rfl⟩
  · simp only [↓awD, awP, Nat.reduceLeDiff, Nat.reduceEqDiff, Nat.reduceAdd, Nat.zero_add, Int.cast_ofNat_Int, Int.reduceLT, Int.reduceLE, Int.reduceEq]
    refine Need.mk (pos_of hw) fun c hc => ?_
    simp only [↓awD, awP, Nat.reduceLeDiff, Nat.reduceEqDiff, Nat.reduceAdd, Nat.zero_add, Int.cast_ofNat_Int, Int.reduceLT, Int.reduceLE, Int.reduceEq]
    have hp : pk s.data.toList 0 = c := by rw [bytes_get] at hc; simp only [pk]; rw [show s.data.toList[0]? = some c from hc]; rfl
    exact Fin.same0 hcl (by simp [AV.under]) ⟨by rw [hp]; simp [lt97], rfl⟩
theorem lower_ev (s : ByteArray) (h : List AObj) (hsz : s.size < 2 ^ 60) : EvR E0 53 [.lit (.string s)] h (boolv (whl s.data.toList && !lt97 (pk s.data.toList 0))) := by
  refine ev_of (fn := Tryd.f53) (hs := []) Tryd.func53 c53 (by simp) fun hcl => ?_
  simp only [ac53, ↓awD, awP, Nat.reduceLeDiff, Nat.reduceEqDiff, Nat.reduceAdd, Nat.zero_add, Int.cast_ofNat_Int, Int.reduceLT, Int.reduceLE, Int.reduceEq]
  refine EvF.ret (whole_ev s h hsz) ?_
  cases hw : whl s.data.toList
  · simp only [↓awD, awP, Nat.reduceLeDiff, Nat.reduceEqDiff, Nat.reduceAdd, Nat.zero_add, Int.cast_ofNat_Int, Int.reduceLT, Int.reduceLE, Int.reduceEq]
    exact Fin.same0 hcl (by simp [AV.under]) ⟨by simp, rfl⟩
  · simp only [↓awD, awP, Nat.reduceLeDiff, Nat.reduceEqDiff, Nat.reduceAdd, Nat.zero_add, Int.cast_ofNat_Int, Int.reduceLT, Int.reduceLE, Int.reduceEq]
    refine Need.mk (pos_of hw) fun c hc => ?_
    simp only [↓awD, awP, Nat.reduceLeDiff, Nat.reduceEqDiff, Nat.reduceAdd, Nat.zero_add, Int.cast_ofNat_Int, Int.reduceLT, Int.reduceLE, Int.reduceEq]
    have hp : pk s.data.toList 0 = c := by rw [bytes_get] at hc; simp only [pk]; rw [show s.data.toList[0]? = some c from hc]; rfl
    refine Fin.same0 hcl (by simp [AV.under]) ⟨?_, rfl⟩
    rw [hp]
    simp only [lt97, Bool.true_and, boolv]
    congr 3
    rw [Bool.eq_iff_iff]
    simp

def lowr (s : ByteArray) : Bool := whl s.data.toList && !lt97 (pk s.data.toList 0)
def uppr (s : ByteArray) : Bool := whl s.data.toList && lt97 (pk s.data.toList 0)
end Go.Abs.Fr

namespace Go.Abs.Fr
open Go Go.Abs Go.Proofs
set_option linter.unusedSimpArgs false
set_option maxRecDepth 100000

abbrev least : Int := -9223372036854775808
def kws : List ByteArray := [⟨#[66, 79, 79, 76, 69, 65, 78]⟩, ⟨#[73, 78, 84, 69, 71, 69, 82]⟩, ⟨#[69, 78, 85, 77, 69, 82, 65, 84, 69, 68]⟩, ⟨#[78, 85, 76, 76]⟩, ⟨#[66, 73, 84]⟩, ⟨#[83, 84, 82, 73, 78, 71]⟩, ⟨#[79, 67, 84, 69, 84]⟩, ⟨#[73, 65, 53, 83, 116, 114, 105, 110, 103]⟩, ⟨#[83, 69, 81, 85, 69, 78, 67, 69]⟩, ⟨#[79, 70]⟩, ⟨#[67, 72, 79, 73, 67, 69]⟩, ⟨#[83, 73, 90, 69]⟩, ⟨#[70, 82, 79, 77]⟩,
  ⟨#[79, 80, 84, 73, 79, 78, 65, 76]⟩, ⟨#[68, 69, 70, 65, 85, 76, 84]⟩, ⟨#[84, 82, 85, 69]⟩, ⟨#[70, 65, 76, 83, 69]⟩, ⟨#[77, 73, 78]⟩, ⟨#[77, 65, 88]⟩, ⟨#[69, 88, 67, 69, 80, 84]⟩, ⟨#[68, 69, 70, 73, 78, 73, 84, 73, 79, 78, 83]⟩, ⟨#[65, 85, 84, 79, 77, 65, 84, 73, 67]⟩, ⟨#[84, 65, 71, 83]⟩, ⟨#[66, 69, 71, 73, 78]⟩, ⟨#[69, 78, 68]⟩, ⟨#[73, 77, 80, 79, 82, 84, 83]⟩]
def kwd (s : ByteArray) : Bool := kws.any fun k => decide (s = k)
def nam (s : ByteArray) : Bool := uppr s && !kwd s

/-! ### Constraints -/
def bare (c : Con) : Bool := decide (c.lo = 0) && (decide (c.hi = 0) && (!c.low && !c.high))
def okCf (B : Con → Bool) (c : Con) : Bool :=
  if c.op = 0 then bare c && decide (c.l.length = 0)
  else if c.op = 1 then decide (c.l.length = 0) && (!decide (c.lo = least) && (!decide (c.hi = least) && ((!c.low || decide (c.lo = 0)) && (!c.high || decide (c.hi = 0)))))
  else if c.op = 4 then decide (c.l.length = 2) && (bare c && !c.l.any fun x => decide (x.op = 0) || !B x)
  else if c.op = 2 ∨ c.op = 3 then decide (2 ≤ c.l.length) && (bare c && !c.l.any fun x => decide (x.op = 0) || !B x)
  else false
def okCon : Nat → Con → Bool
  | 0, _ => false
  | r + 1, c => okCf (okCon r) c
def okc (c : Con) : Bool := okCon 40 c

/-! ### Texts -/
def prnc (c : UInt8) : Bool := !decide ((c.toNat : Int) < 32) && !decide ((126 : Int) < (c.toNat : Int))
def prn (l : List UInt8) : Bool := l.all prnc
def risesL : List UInt8 → Bool
  | a :: b :: l => decide ((a.toNat : Int) < (b.toNat : Int)) && risesL (b :: l)
  | _ => true

/-! ### Types -/
def okDef (v : Val) : Bool :=
  if 0 < v.names.length + v.l.length then false
  else if v.kind = 1 then decide (v.s = ⟨#[]⟩) && (decide (v.n = 0) || decide (v.n = 1))
  else if v.kind = 2 then decide (v.s = ⟨#[]⟩) && !decide (v.n = least)
  else if v.kind = 3 then decide (v.n = 0) && lowr v.s
  else decide (v.kind = 7) && (decide (v.n = 0) && prn v.s.data.toList)
def wordsOk (l : List ByteArray) : Bool := decide (l.length ≤ 256) && !l.any fun s => !lowr s
def okPf (B : Ty → Bool) (choice : Bool) (p : Prt) : Bool :=
  lowr p.name && (!(p.opt && decide (0 < p.dfl.length)) && (decide (p.dfl.length ≤ 1) && (!(choice && (p.opt || decide (0 < p.dfl.length))) && (p.dfl.all okDef && B p.t))))
def partsOk (B : Ty → Bool) (choice : Bool) (l : List Prt) : Bool := decide (l.length ≤ 256) && !l.any fun p => !okPf B choice p
/-- Are no fields set but those that are told? -/
def onlyF (t : Ty) (name con ext frm items all elem : Bool) : Bool :=
  (name || decide (t.name = ⟨#[]⟩)) && ((con || decide (t.con.op = 0)) && ((ext || !t.ext) && ((frm || decide (t.frm = ⟨#[]⟩)) && ((items || decide (t.names.length + t.more.length = 0)) && ((all || decide (t.parts.length + t.adds.length = 0)) && (elem || decide (t.elem.length = 0)))))))
def sizedOk (t : Ty) : Bool := !t.ext || !decide (t.con.op = 0)
def okTf (B : Ty → Bool) (t : Ty) : Bool :=
  okc t.con &&
  (if t.kind = 1 ∨ t.kind = 4 then onlyF t false false false false false false false
  else if t.kind = 2 ∨ t.kind = 5 ∨ t.kind = 6 then onlyF t false true true false false false false && sizedOk t
  else if t.kind = 7 then onlyF t false true true true false false false && (sizedOk t && (prn t.frm.data.toList && risesL t.frm.data.toList))
  else if t.kind = 3 then onlyF t false false true false true false false && (decide (0 < t.names.length) && (wordsOk t.names && (wordsOk t.more && (t.ext || decide (t.more.length = 0)))))
  else if t.kind = 8 then onlyF t false false true false false true false && ((t.ext || decide (t.adds.length = 0)) && (partsOk B false t.parts && partsOk B false t.adds))
  else if t.kind = 10 then onlyF t false false true false false true false && ((t.ext || decide (t.adds.length = 0)) && (decide (0 < t.parts.length) && (partsOk B true t.parts && partsOk B true t.adds)))
  else if t.kind = 9 then onlyF t false true true false false false true && (sizedOk t && (decide (t.elem.length = 1) && B (t.elem.headD t)))
  else if t.kind = 11 then onlyF t true false false false false false false && nam t.name
  else false)
def okTy : Nat → Ty → Bool
  | 0, _ => false
  | r + 1, t => okTf (okTy r) t
def okt (t : Ty) : Bool := okTy 40 t
def impOk (i : Imp) : Bool := nam i.frm && (decide (0 < i.names.length) && (decide (i.names.length ≤ 256) && !i.names.any fun s => !nam s))
def dfnOk (d : Dfn) : Bool := nam d.name && okt d.t
def modOk (m : Mod) : Bool := nam m.name && (decide (m.imports.length ≤ 256) && (decide (m.defs.length ≤ 256) && (m.imports.all impOk && !m.defs.any fun d => !dfnOk d)))

/-! ### How deep a type is -/
def depP (D : Ty → Nat) (l : List Prt) (b : Nat) : Nat := l.foldl (fun b p => max b (D p.t)) b
def depT (D : Ty → Nat) (l : List Ty) (b : Nat) : Nat := l.foldl (fun b p => max b (D p)) b
def depf (D : Ty → Nat) (t : Ty) : Nat := depT D t.elem (depP D t.adds (depP D t.parts 0)) + 1
def depTy : Nat → Ty → Nat
  | 0, _ => 0
  | r + 1, t => depf (depTy r) t
theorem depTy_le : ∀ (r : Nat) (t : Ty), depTy r t ≤ r
  | 0, _ => Nat.le_refl _
  | r + 1, t => by
    have hP : ∀ (l : List Prt) (b : Nat), b ≤ r → depP (depTy r) l b ≤ r := by
      intro l
      induction l with
      | nil => intro b hb; exact hb
      | cons p l ih => intro b hb; exact ih _ (by have := depTy_le r p.t; show max b (depTy r p.t) ≤ r; omega)
    have hT : ∀ (l : List Ty) (b : Nat), b ≤ r → depT (depTy r) l b ≤ r := by
      intro l
      induction l with
      | nil => intro b hb; exact hb
      | cons p l ih => intro b hb; exact ih _ (by have := depTy_le r p; show max b (depTy r p) ≤ r; omega)
    have := hT t.elem _ (hP t.adds _ (hP t.parts 0 (Nat.zero_le _)))
    simp only [depTy, depf]; omega
end Go.Abs.Fr

namespace Go.Abs.Fr
open Go Go.Abs Go.Proofs
set_option linter.unusedSimpArgs false
set_option maxRecDepth 100000

theorem okPf_sub (B : Ty → Bool) (ch : Bool) (p : Prt) : okPf B ch p = (okPf (fun _ => true) ch p && B p.t) := by
  simp only [okPf, Bool.and_true, Bool.and_assoc]
theorem partsOk_sub {B0 B : Ty → Bool} {ch : Bool} {l : List Prt} (h : partsOk B0 ch l = true) : partsOk B ch l = l.all fun p => B p.t := by
  simp only [partsOk, Bool.and_eq_true, decide_eq_true_eq, Bool.not_eq_true', List.any_eq_false] at h
  rw [partsOk, decide_eq_true h.1, Bool.true_and]
  rw [Bool.eq_iff_iff]
  simp only [Bool.not_eq_true', List.any_eq_false, List.all_eq_true]
  refine forall_congr' fun p => imp_congr_right fun hp => ?_
  have h1 := h.2 p hp
  rw [okPf_sub] at h1 ⊢
  simp only [Bool.not_eq_true', Bool.not_eq_false, Bool.and_eq_true] at h1
  simp [h1.1]
theorem all_nil_of {α : Type} {l : List α} (h : l.length = 0) (p : α → Bool) : l.all p = true := by
  rw [List.length_eq_zero_iff.1 h]; rfl
theorem only_parts {t : Ty} {a b c d e f : Bool} (h : onlyF t a b c d e false f = true) : t.parts = [] ∧ t.adds = [] := by
  simp only [onlyF, Bool.false_or, Bool.and_eq_true, decide_eq_true_eq] at h
  exact ⟨List.length_eq_zero_iff.1 (by omega), List.length_eq_zero_iff.1 (by omega)⟩
theorem only_elem {t : Ty} {a b c d e f : Bool} (h : onlyF t a b c d e f false = true) : t.elem = [] := by
  simp only [onlyF, Bool.false_or, Bool.and_eq_true, decide_eq_true_eq] at h
  exact List.length_eq_zero_iff.1 (by omega)
theorem okTf_sub {B0 B : Ty → Bool} {t : Ty} (h : okTf B0 t = true) : okTf B t = (t.parts.all (fun p => B p.t) && (t.adds.all (fun p => B p.t) && t.elem.all B)) := by
  unfold okTf at h ⊢
  rw [Bool.and_eq_true] at h
  obtain ⟨hc, h⟩ := h
  rw [hc, Bool.true_and]
  by_cases k1 : t.kind = 1 ∨ t.kind = 4
  · rw [if_pos k1] at h ⊢
    rw [h, (only_parts h).1, (only_parts h).2, only_elem h]; rfl
  rw [if_neg k1] at h ⊢
  by_cases k2 : t.kind = 2 ∨ t.kind = 5 ∨ t.kind = 6
  · rw [if_pos k2] at h ⊢
    have h1 := h
    rw [Bool.and_eq_true] at h1
    rw [h, (only_parts h1.1).1, (only_parts h1.1).2, only_elem h1.1]; rfl
  rw [if_neg k2] at h ⊢
  by_cases k7 : t.kind = 7
  · rw [if_pos k7] at h ⊢
    have h1 := h
    rw [Bool.and_eq_true] at h1
    rw [h, (only_parts h1.1).1, (only_parts h1.1).2, only_elem h1.1]; rfl
  rw [if_neg k7] at h ⊢
  by_cases k3 : t.kind = 3
  · rw [if_pos k3] at h ⊢
    have h1 := h
    rw [Bool.and_eq_true] at h1
    rw [h, (only_parts h1.1).1, (only_parts h1.1).2, only_elem h1.1]; rfl
  rw [if_neg k3] at h ⊢
  by_cases k8 : t.kind = 8
  · rw [if_pos k8] at h ⊢
    simp only [Bool.and_eq_true] at h
    rw [h.1, h.2.1, partsOk_sub h.2.2.1, partsOk_sub h.2.2.2, only_elem h.1]; simp
  rw [if_neg k8] at h ⊢
  by_cases k10 : t.kind = 10
  · rw [if_pos k10] at h ⊢
    simp only [Bool.and_eq_true] at h
    rw [h.1, h.2.1, h.2.2.1, partsOk_sub h.2.2.2.1, partsOk_sub h.2.2.2.2, only_elem h.1]; simp
  rw [if_neg k10] at h ⊢
  by_cases k9 : t.kind = 9
  · rw [if_pos k9] at h ⊢
    simp only [Bool.and_eq_true] at h
    rw [h.1, h.2.1, h.2.2.1, (only_parts h.1).1, (only_parts h.1).2]
    have hl := h.2.2.1
    rw [decide_eq_true_eq] at hl
    match he : t.elem, hl with
    | [x], _ => simp
  rw [if_neg k9] at h ⊢
  by_cases k11 : t.kind = 11
  · rw [if_pos k11] at h ⊢
    have h1 := h
    rw [Bool.and_eq_true] at h1
    rw [h, (only_parts h1.1).1, (only_parts h1.1).2, only_elem h1.1]; rfl
  rw [if_neg k11] at h
  cases h

theorem depP_le (D : Ty → Nat) (r : Nat) : ∀ (l : List Prt) (b : Nat), depP D l b ≤ r ↔ b ≤ r ∧ ∀ p, p ∈ l → D p.t ≤ r
  | [], b => by simp [depP]
  | p :: l, b => by
    have h := depP_le D r l (max b (D p.t))
    show depP D l (max b (D p.t)) ≤ r ↔ _
    rw [h]
    simp only [List.mem_cons, forall_eq_or_imp, Nat.max_le, and_assoc]
theorem depT_le (D : Ty → Nat) (r : Nat) : ∀ (l : List Ty) (b : Nat), depT D l b ≤ r ↔ b ≤ r ∧ ∀ p, p ∈ l → D p ≤ r
  | [], b => by simp [depT]
  | p :: l, b => by
    have h := depT_le D r l (max b (D p))
    show depT D l (max b (D p)) ≤ r ↔ _
    rw [h]
    simp only [List.mem_cons, forall_eq_or_imp, Nat.max_le, and_assoc]
/-- Shaped, with some room: shaped with so much room as it is deep. -/
theorem okTy_dep : ∀ (R : Nat) (t : Ty), okTy R t = true → ∀ r, okTy r t = decide (depTy R t ≤ r)
  | 0, t, h, r => by cases h
  | R + 1, t, h, 0 => by
    rw [show decide (depTy (R + 1) t ≤ 0) = false by rw [decide_eq_false_iff_not]; simp only [depTy, depf]; omega]; rfl
  | R + 1, t, h, r + 1 => by
    have h1 : okTf (okTy R) t = true := h
    have h2 := okTf_sub (B := okTy R) h1
    rw [h1] at h2
    have h3 := h2.symm
    simp only [Bool.and_eq_true, List.all_eq_true] at h3
    show okTf (okTy r) t = _
    rw [okTf_sub h1, Bool.eq_iff_iff]
    simp only [Bool.and_eq_true, List.all_eq_true, decide_eq_true_eq, depTy, depf, Nat.add_le_add_iff_right, depT_le, depP_le]
    constructor
    · rintro ⟨a, b, c⟩
      exact ⟨⟨⟨Nat.zero_le _, fun p hp => by have := a p hp; rw [okTy_dep R p.t (h3.1 p hp) r, decide_eq_true_eq] at this; exact this⟩, fun p hp => by have := b p hp; rw [okTy_dep R p.t (h3.2.1 p hp) r, decide_eq_true_eq] at this; exact this⟩, fun p hp => by have := c p hp; rw [okTy_dep R p (h3.2.2 p hp) r, decide_eq_true_eq] at this; exact this⟩
    · rintro ⟨⟨⟨_, a⟩, b⟩, c⟩
      exact ⟨fun p hp => by rw [okTy_dep R p.t (h3.1 p hp) r, decide_eq_true_eq]; exact a p hp, fun p hp => by rw [okTy_dep R p.t (h3.2.1 p hp) r, decide_eq_true_eq]; exact b p hp, fun p hp => by rw [okTy_dep R p (h3.2.2 p hp) r, decide_eq_true_eq]; exact c p hp⟩

theorem depP_min {D D' : Ty → Nat} {r : Nat} (hD : ∀ t, D t = min (D' t) r) : ∀ (l : List Prt) (b : Nat), depP D l (min b r) = min (depP D' l b) r
  | [], b => rfl
  | p :: l, b => by
    show depP D l (max (min b r) (D p.t)) = min (depP D' l (max b (D' p.t))) r
    rw [← depP_min hD l, hD]
    congr 1; omega
theorem depT_min {D D' : Ty → Nat} {r : Nat} (hD : ∀ t, D t = min (D' t) r) : ∀ (l : List Ty) (b : Nat), depT D l (min b r) = min (depT D' l b) r
  | [], b => rfl
  | p :: l, b => by
    show depT D l (max (min b r) (D p)) = min (depT D' l (max b (D' p))) r
    rw [← depT_min hD l, hD]
    congr 1; omega
theorem depTy_min : ∀ (R r : Nat), r ≤ R → ∀ t, depTy r t = min (depTy R t) r
  | R, 0, _, t => by simp [depTy]
  | R + 1, r + 1, h, t => by
    have hD := depTy_min R r (by omega)
    simp only [depTy, depf]
    have h0 : (0 : Nat) = min 0 r := by omega
    rw [h0, depP_min hD, depP_min hD, depT_min hD, ← h0]
    omega

/-- A list of such a type. -/
def zeroC : Con := .mk 0 0 0 false false [] ⟨⟨by decide, by decide⟩, ⟨by decide, by decide⟩, ⟨by decide, by decide⟩⟩
def wrapT (t : Ty) : Nat → Ty
  | 0 => t
  | i + 1 => .mk 9 ⟨#[]⟩ zeroC false ⟨#[]⟩ [] [] [] [] [wrapT t i] ⟨by decide, by decide⟩
theorem ok_wrap (r : Nat) (t : Ty) (i : Nat) : okTy (r + 1) (wrapT t (i + 1)) = okTy r (wrapT t i) := by
  have h1 : okc zeroC = true := by decide +kernel
  simp [okTy, okTf, wrapT, Ty.kind, Ty.con, onlyF, Ty.name, Ty.frm, Ty.ext, Ty.names, Ty.more, Ty.parts, Ty.adds, Ty.elem, sizedOk, h1]
theorem dep_wrap (r : Nat) (t : Ty) (i : Nat) : depTy (r + 1) (wrapT t (i + 1)) = depTy r (wrapT t i) + 1 := by
  simp [depTy, depf, wrapT, Ty.parts, Ty.adds, Ty.elem, depP, depT]
theorem dep_pos (r : Nat) (t : Ty) : 1 ≤ depTy (r + 1) t := by simp [depTy, depf]
theorem ok_nest {t : Ty} (h : okt t = true) : ∀ (i r : Nat), r ≤ 40 → okTy r (wrapT t i) = decide (depTy 41 t + i ≤ r) := by
  have h41 : okTy 41 t = true := by rw [okTy_dep 40 t h 41, decide_eq_true_eq]; have := depTy_le 40 t; omega
  intro i
  induction i with
  | zero => intro r _; exact okTy_dep 41 t h41 r
  | succ i ih =>
    intro r hr
    cases r with
    | zero =>
      have := dep_pos 40 t
      rw [show decide (depTy 41 t + (i + 1) ≤ 0) = false by rw [decide_eq_false_iff_not]; omega]; rfl
    | succ r =>
      rw [ok_wrap, ih r (by omega), decide_eq_decide]; omega
theorem dep_nest (t : Ty) : ∀ (i r : Nat), r ≤ 41 → depTy r (wrapT t i) = min (depTy 41 t + i) r := by
  intro i
  induction i with
  | zero => intro r hr; exact depTy_min 41 r hr t
  | succ i ih =>
    intro r hr
    cases r with
    | zero => simp [depTy]
    | succ r => rw [dep_wrap, ih r (by omega)]; omega
end Go.Abs.Fr
