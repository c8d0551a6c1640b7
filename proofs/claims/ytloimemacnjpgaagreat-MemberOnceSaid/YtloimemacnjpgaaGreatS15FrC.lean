/- The resolved code of the program's functions. -/
import Derived.Test.YtloimemacnjpgaaGreatAbsK1
import Derived.Test.YtloimemacnjpgaaGreatProg
import Derived.KernelRfl
import Derived.Lib.ItoaNum
set_option linter.all false
namespace Go.Abs.Fr
open Go Go.Abs Go.Proofs
set_option maxRecDepth 100000

def gl18 : Nat → Option (List AV) := fun i => none
noncomputable def E0 : Env := ⟨Tryz.prog, gl18⟩

end Go.Abs.Fr

namespace Go.Abs.Fr
open Go Go.Abs Go.Proofs
set_option linter.unusedSimpArgs false
set_option maxRecDepth 100000

abbrev strl (l : List ByteArray) : AV := .sl .unk (l.map str)
/-- The greatest size there. -/
def mxB : List ByteArray → Nat
  | [] => 0
  | s :: l => max (l.length + 1) (max s.size (mxB l))
theorem mxB_len : ∀ (l : List ByteArray), l.length ≤ mxB l
  | [] => Nat.zero_le _
  | s :: l => by simp only [mxB, List.length_cons]; omega
theorem mxB_mem : ∀ {l : List ByteArray} {s : ByteArray}, s ∈ l → s.size ≤ mxB l
  | x :: l, s, h => by
    rcases List.mem_cons.1 h with rfl | h
    · simp only [mxB]; omega
    · have := mxB_mem h; simp only [mxB]; omega

/-! ### Constraints -/
inductive Con where
  | mk (op lo hi : Int) (low high : Bool) (l : List Con) (ok : InR op ∧ InR lo ∧ InR hi)
def Con.op : Con → Int | .mk a _ _ _ _ _ _ => a
def Con.lo : Con → Int | .mk _ a _ _ _ _ _ => a
def Con.hi : Con → Int | .mk _ _ a _ _ _ _ => a
def Con.low : Con → Bool | .mk _ _ _ a _ _ _ => a
def Con.high : Con → Bool | .mk _ _ _ _ a _ _ => a
def Con.l : Con → List Con | .mk _ _ _ _ _ a _ => a
theorem Con.ok (c : Con) : InR c.op ∧ InR c.lo ∧ InR c.hi := by cases c with | mk o a b c d l h => exact h
mutual
def conv : Con → AV
  | .mk o a b c d l _ => .agg [i64 o, i64 a, i64 b, boolv c, boolv d, .sl .unk (consv l)]
def consv : List Con → List AV
  | [] => []
  | c :: l => conv c :: consv l
end
theorem consv_map : ∀ (l : List Con), consv l = l.map conv
  | [] => rfl
  | s :: l => by simp only [consv, List.map_cons, consv_map l]
abbrev conl (l : List Con) : AV := .sl .unk (l.map conv)
theorem conv_eq (c : Con) : conv c = .agg [i64 c.op, i64 c.lo, i64 c.hi, boolv c.low, boolv c.high, conl c.l] := by
  cases c; simp only [conv, consv_map]; rfl
mutual
def mxC : Con → Nat
  | .mk _ _ _ _ _ l _ => mxCs l
def mxCs : List Con → Nat
  | [] => 0
  | c :: l => max (l.length + 1) (max (mxC c) (mxCs l))
end
theorem mxC_eq (c : Con) : mxC c = mxCs c.l := by cases c; simp only [mxC]; rfl
theorem mxCs_len : ∀ (l : List Con), l.length ≤ mxCs l
  | [] => Nat.zero_le _
  | s :: l => by simp only [mxCs, List.length_cons]; omega
theorem mxCs_mem : ∀ {l : List Con} {s : Con}, s ∈ l → mxC s ≤ mxCs l
  | x :: l, s, h => by
    rcases List.mem_cons.1 h with rfl | h
    · simp only [mxCs]; omega
    · have := mxCs_mem h; simp only [mxCs]; omega
mutual
def szC : Con → Nat
  | .mk _ _ _ _ _ l _ => 1 + szCs l
def szCs : List Con → Nat
  | [] => 0
  | c :: l => szC c + szCs l
end
theorem szC_eq (c : Con) : szC c = 1 + szCs c.l := by cases c; simp only [szC]; rfl
theorem szCs_mem : ∀ {l : List Con} {s : Con}, s ∈ l → szC s ≤ szCs l
  | x :: l, s, h => by
    rcases List.mem_cons.1 h with rfl | h
    · simp only [szCs]; omega
    · have := szCs_mem h; simp only [szCs]; omega
theorem szCs_len : ∀ (l : List Con), l.length ≤ szCs l
  | [] => Nat.zero_le _
  | s :: l => by have := szCs_len l; have := szC_eq s; simp only [szCs, List.length_cons]; omega

/-! ### Values -/
inductive Val where
  | mk (kind n : Int) (s : ByteArray) (names : List ByteArray) (l : List Val) (ok : InR kind ∧ InR n)
def Val.kind : Val → Int | .mk a _ _ _ _ _ => a
def Val.n : Val → Int | .mk _ a _ _ _ _ => a
def Val.s : Val → ByteArray | .mk _ _ a _ _ _ => a
def Val.names : Val → List ByteArray | .mk _ _ _ a _ _ => a
def Val.l : Val → List Val | .mk _ _ _ _ a _ => a
theorem Val.ok (v : Val) : InR v.kind ∧ InR v.n := by cases v with | mk o a b c d h => exact h
mutual
def valv : Val → AV
  | .mk k n s ns l _ => .agg [i64 k, i64 n, str s, strl ns, .sl .unk (valsv l)]
def valsv : List Val → List AV
  | [] => []
  | c :: l => valv c :: valsv l
end
theorem valsv_map : ∀ (l : List Val), valsv l = l.map valv
  | [] => rfl
  | s :: l => by simp only [valsv, List.map_cons, valsv_map l]
abbrev vall (l : List Val) : AV := .sl .unk (l.map valv)
theorem valv_eq (v : Val) : valv v = .agg [i64 v.kind, i64 v.n, str v.s, strl v.names, vall v.l] := by
  cases v; simp only [valv, valsv_map]; rfl
mutual
def mxV : Val → Nat
  | .mk _ _ s ns l _ => max (max s.size (mxB ns)) (mxVs l)
def mxVs : List Val → Nat
  | [] => 0
  | c :: l => max (l.length + 1) (max (mxV c) (mxVs l))
end
theorem mxV_eq (v : Val) : mxV v = max (max v.s.size (mxB v.names)) (mxVs v.l) := by cases v; simp only [mxV]; rfl
theorem mxVs_len : ∀ (l : List Val), l.length ≤ mxVs l
  | [] => Nat.zero_le _
  | s :: l => by simp only [mxVs, List.length_cons]; omega
theorem mxVs_mem : ∀ {l : List Val} {s : Val}, s ∈ l → mxV s ≤ mxVs l
  | x :: l, s, h => by
    rcases List.mem_cons.1 h with rfl | h
    · simp only [mxVs]; omega
    · have := mxVs_mem h; simp only [mxVs]; omega
mutual
def szV : Val → Nat
  | .mk _ _ _ _ l _ => 1 + szVs l
def szVs : List Val → Nat
  | [] => 0
  | c :: l => szV c + szVs l
end
theorem szV_eq (v : Val) : szV v = 1 + szVs v.l := by cases v; simp only [szV]; rfl
theorem szVs_mem : ∀ {l : List Val} {s : Val}, s ∈ l → szV s ≤ szVs l
  | x :: l, s, h => by
    rcases List.mem_cons.1 h with rfl | h
    · simp only [szVs]; omega
    · have := szVs_mem h; simp only [szVs]; omega
theorem szVs_len : ∀ (l : List Val), l.length ≤ szVs l
  | [] => Nat.zero_le _
  | s :: l => by have := szVs_len l; have := szV_eq s; simp only [szVs, List.length_cons]; omega

/-! ### Types -/
mutual
inductive Ty where
  | mk (kind : Int) (name : ByteArray) (con : Con) (ext : Bool) (frm : ByteArray) (names more : List ByteArray) (parts adds : List Prt) (elem : List Ty) (ok : InR kind)
inductive Prt where
  | mk (name : ByteArray) (t : Ty) (opt : Bool) (dfl : List Val)
end
def Ty.kind : Ty → Int | .mk a _ _ _ _ _ _ _ _ _ _ => a
def Ty.name : Ty → ByteArray | .mk _ a _ _ _ _ _ _ _ _ _ => a
def Ty.con : Ty → Con | .mk _ _ a _ _ _ _ _ _ _ _ => a
def Ty.ext : Ty → Bool | .mk _ _ _ a _ _ _ _ _ _ _ => a
def Ty.frm : Ty → ByteArray | .mk _ _ _ _ a _ _ _ _ _ _ => a
def Ty.names : Ty → List ByteArray | .mk _ _ _ _ _ a _ _ _ _ _ => a
def Ty.more : Ty → List ByteArray | .mk _ _ _ _ _ _ a _ _ _ _ => a
def Ty.parts : Ty → List Prt | .mk _ _ _ _ _ _ _ a _ _ _ => a
def Ty.adds : Ty → List Prt | .mk _ _ _ _ _ _ _ _ a _ _ => a
def Ty.elem : Ty → List Ty | .mk _ _ _ _ _ _ _ _ _ a _ => a
theorem Ty.ok (t : Ty) : InR t.kind := by cases t with | mk a b c d e f g h i j k => exact k
def Prt.name : Prt → ByteArray | .mk a _ _ _ => a
def Prt.t : Prt → Ty | .mk _ a _ _ => a
def Prt.opt : Prt → Bool | .mk _ _ a _ => a
def Prt.dfl : Prt → List Val | .mk _ _ _ a => a
mutual
def tyc : Ty → List AV
  | .mk k n c e f ns ms ps ad el _ => [i64 k, str n, i64 c.op, i64 c.lo, i64 c.hi, boolv c.low, boolv c.high, conl c.l, boolv e, str f, strl ns, strl ms, .sl .unk (prtsv ps), .sl .unk (prtsv ad), .sl .unk (tysv el)]
def prtc : Prt → List AV
  | .mk n t o d => str n :: (tyc t ++ [boolv o, vall d])
def prtsv : List Prt → List AV
  | [] => []
  | p :: l => .agg (prtc p) :: prtsv l
def tysv : List Ty → List AV
  | [] => []
  | p :: l => .agg (tyc p) :: tysv l
end
def tyv (t : Ty) : AV := .agg (tyc t)
def prtv (p : Prt) : AV := .agg (prtc p)
theorem prtsv_map : ∀ (l : List Prt), prtsv l = l.map prtv
  | [] => rfl
  | s :: l => by simp only [prtsv, List.map_cons, prtsv_map l, prtv]
theorem tysv_map : ∀ (l : List Ty), tysv l = l.map tyv
  | [] => rfl
  | s :: l => by simp only [tysv, List.map_cons, tysv_map l, tyv]
abbrev prtl (l : List Prt) : AV := .sl .unk (l.map prtv)
abbrev tyl (l : List Ty) : AV := .sl .unk (l.map tyv)
theorem tyc_eq (t : Ty) : tyc t = [i64 t.kind, str t.name, i64 t.con.op, i64 t.con.lo, i64 t.con.hi, boolv t.con.low, boolv t.con.high, conl t.con.l, boolv t.ext, str t.frm, strl t.names, strl t.more, prtl t.parts, prtl t.adds, tyl t.elem] := by
  cases t; simp only [tyc, prtsv_map, tysv_map]; rfl
theorem tyv_eq (t : Ty) : tyv t = .agg [i64 t.kind, str t.name, i64 t.con.op, i64 t.con.lo, i64 t.con.hi, boolv t.con.low, boolv t.con.high, conl t.con.l, boolv t.ext, str t.frm, strl t.names, strl t.more, prtl t.parts, prtl t.adds, tyl t.elem] := by
  unfold tyv; rw [tyc_eq]
theorem prtv_eq (p : Prt) : prtv p = .agg [str p.name, i64 p.t.kind, str p.t.name, i64 p.t.con.op, i64 p.t.con.lo, i64 p.t.con.hi, boolv p.t.con.low, boolv p.t.con.high, conl p.t.con.l, boolv p.t.ext, str p.t.frm, strl p.t.names, strl p.t.more, prtl p.t.parts, prtl p.t.adds, tyl p.t.elem, boolv p.opt, vall p.dfl] := by
  cases p with | mk n t o d => simp only [prtv, prtc, tyc_eq]; rfl
mutual
def mxT : Ty → Nat
  | .mk _ n c _ f ns ms ps ad el _ => max (max (max n.size f.size) (max (mxC c) (max (mxB ns) (mxB ms)))) (max (mxPs ps) (max (mxPs ad) (mxTs el)))
def mxP : Prt → Nat
  | .mk n t _ d => max n.size (max (mxT t) (mxVs d))
def mxPs : List Prt → Nat
  | [] => 0
  | c :: l => max (l.length + 1) (max (mxP c) (mxPs l))
def mxTs : List Ty → Nat
  | [] => 0
  | c :: l => max (l.length + 1) (max (mxT c) (mxTs l))
end
theorem mxT_eq (t : Ty) : mxT t = max (max (max t.name.size t.frm.size) (max (mxC t.con) (max (mxB t.names) (mxB t.more)))) (max (mxPs t.parts) (max (mxPs t.adds) (mxTs t.elem))) := by cases t; simp only [mxT]; rfl
theorem mxP_eq (p : Prt) : mxP p = max p.name.size (max (mxT p.t) (mxVs p.dfl)) := by cases p; simp only [mxP]; rfl
theorem mxPs_len : ∀ (l : List Prt), l.length ≤ mxPs l
  | [] => Nat.zero_le _
  | s :: l => by simp only [mxPs, List.length_cons]; omega
theorem mxPs_mem : ∀ {l : List Prt} {s : Prt}, s ∈ l → mxP s ≤ mxPs l
  | x :: l, s, h => by
    rcases List.mem_cons.1 h with rfl | h
    · simp only [mxPs]; omega
    · have := mxPs_mem h; simp only [mxPs]; omega
theorem mxTs_len : ∀ (l : List Ty), l.length ≤ mxTs l
  | [] => Nat.zero_le _
  | s :: l => by simp only [mxTs, List.length_cons]; omega
theorem mxTs_mem : ∀ {l : List Ty} {s : Ty}, s ∈ l → mxT s ≤ mxTs l
  | x :: l, s, h => by
    rcases List.mem_cons.1 h with rfl | h
    · simp only [mxTs]; omega
    · have := mxTs_mem h; simp only [mxTs]; omega
mutual
def szT : Ty → Nat
  | .mk _ _ _ _ _ _ _ ps ad el _ => 1 + szPs ps + szPs ad + szTs el
def szP : Prt → Nat
  | .mk _ t _ _ => 1 + szT t
def szPs : List Prt → Nat
  | [] => 0
  | c :: l => szP c + szPs l
def szTs : List Ty → Nat
  | [] => 0
  | c :: l => szT c + szTs l
end
theorem szT_eq (t : Ty) : szT t = 1 + szPs t.parts + szPs t.adds + szTs t.elem := by cases t; simp only [szT]; rfl
theorem szP_eq (p : Prt) : szP p = 1 + szT p.t := by cases p; simp only [szP]; rfl
theorem szPs_mem : ∀ {l : List Prt} {s : Prt}, s ∈ l → szP s ≤ szPs l
  | x :: l, s, h => by
    rcases List.mem_cons.1 h with rfl | h
    · simp only [szPs]; omega
    · have := szPs_mem h; simp only [szPs]; omega
theorem szTs_mem : ∀ {l : List Ty} {s : Ty}, s ∈ l → szT s ≤ szTs l
  | x :: l, s, h => by
    rcases List.mem_cons.1 h with rfl | h
    · simp only [szTs]; omega
    · have := szTs_mem h; simp only [szTs]; omega
theorem szPs_len : ∀ (l : List Prt), l.length ≤ szPs l
  | [] => Nat.zero_le _
  | s :: l => by have := szPs_len l; have := szP_eq s; simp only [szPs, List.length_cons]; omega
theorem szTs_len : ∀ (l : List Ty), l.length ≤ szTs l
  | [] => Nat.zero_le _
  | s :: l => by have := szTs_len l; have := szT_eq s; simp only [szTs, List.length_cons]; omega

theorem mxV_le (v : Val) : v.s.size ≤ mxV v ∧ mxB v.names ≤ mxV v ∧ mxVs v.l ≤ mxV v := by have := mxV_eq v; omega
theorem mxT_le (t : Ty) : t.name.size ≤ mxT t ∧ t.frm.size ≤ mxT t ∧ mxC t.con ≤ mxT t ∧ mxB t.names ≤ mxT t ∧ mxB t.more ≤ mxT t ∧ mxPs t.parts ≤ mxT t ∧ mxPs t.adds ≤ mxT t ∧ mxTs t.elem ≤ mxT t := by have := mxT_eq t; omega
theorem mxP_le (p : Prt) : p.name.size ≤ mxP p ∧ mxT p.t ≤ mxP p ∧ mxVs p.dfl ≤ mxP p := by have := mxP_eq p; omega

/-! ### Modules -/
structure Imp where
  names : List ByteArray
  frm : ByteArray
structure Dfn where
  name : ByteArray
  t : Ty
structure Mod where
  name : ByteArray
  auto : Bool
  imports : List Imp
  defs : List Dfn
def impv (i : Imp) : AV := .agg [strl i.names, str i.frm]
def dfnv (d : Dfn) : AV := .agg [str d.name, i64 d.t.kind, str d.t.name, i64 d.t.con.op, i64 d.t.con.lo, i64 d.t.con.hi, boolv d.t.con.low, boolv d.t.con.high, conl d.t.con.l, boolv d.t.ext, str d.t.frm, strl d.t.names, strl d.t.more, prtl d.t.parts, prtl d.t.adds, tyl d.t.elem]
def modv (m : Mod) : AV := .agg [str m.name, boolv m.auto, .sl .unk (m.imports.map impv), .sl .unk (m.defs.map dfnv)]
abbrev impl (l : List Imp) : AV := .sl .unk (l.map impv)
abbrev dfnl (l : List Dfn) : AV := .sl .unk (l.map dfnv)
end Go.Abs.Fr
