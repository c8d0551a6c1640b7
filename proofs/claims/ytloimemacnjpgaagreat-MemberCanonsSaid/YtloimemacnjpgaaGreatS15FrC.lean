/- The resolved code of the program's functions. -/
import Derived.Test.YtloimemacnjpgaaGreatAbsK1
import Derived.Test.YtloimemacnjpgaaGreatProg
import Derived.KernelRfl
import Derived.Lib.ItoaNum
set_option linter.all false
namespace Go.Abs.Fr
open Go Go.Abs Go.Proofs
set_option maxRecDepth 100000

def gl18 : Nat → Option (List AV) := fun i => none
noncomputable def E0 : Env := ⟨Tryz.prog, gl18⟩


abbrev strl (l : List ByteArray) : AV := .sl .unk (l.map str)
def mxB : List ByteArray → Nat
  | [] => 0
  | s :: l => max (l.length + 1) (max s.size (mxB l))
theorem mxB_len : ∀ (l : List ByteArray), l.length ≤ mxB l
  | [] => Nat.zero_le _
  | s :: l => by simp only [mxB, List.length_cons]; omega
inductive Con where
  | mk (op lo hi : Int) (low high : Bool) (l : List Con) (ok : InR op ∧ InR lo ∧ InR hi)
def Con.op : Con → Int | .mk a _ _ _ _ _ _ => a
def Con.lo : Con → Int | .mk _ a _ _ _ _ _ => a
def Con.hi : Con → Int | .mk _ _ a _ _ _ _ => a
def Con.low : Con → Bool | .mk _ _ _ a _ _ _ => a
def Con.high : Con → Bool | .mk _ _ _ _ a _ _ => a
def Con.l : Con → List Con | .mk _ _ _ _ _ a _ => a
theorem Con.ok (c : Con) : InR c.op ∧ InR c.lo ∧ InR c.hi := by cases c with | mk o a b c d l h => exact h
mutual
def conv : Con → AV
  | .mk o a b c d l _ => .agg [i64 o, i64 a, i64 b, boolv c, boolv d, .sl .unk (consv l)]
def consv : List Con → List AV
  | [] => []
  | c :: l => conv c :: consv l
end
inductive Val where
  | mk (kind n : Int) (s : ByteArray) (names : List ByteArray) (l : List Val) (ok : InR kind ∧ InR n)
def Val.kind : Val → Int | .mk a _ _ _ _ _ => a
def Val.n : Val → Int | .mk _ a _ _ _ _ => a
def Val.s : Val → ByteArray | .mk _ _ a _ _ _ => a
def Val.names : Val → List ByteArray | .mk _ _ _ a _ _ => a
def Val.l : Val → List Val | .mk _ _ _ _ a _ => a
theorem Val.ok (v : Val) : InR v.kind ∧ InR v.n := by cases v with | mk o a b c d h => exact h
mutual
def valv : Val → AV
  | .mk k n s ns l _ => .agg [i64 k, i64 n, str s, strl ns, .sl .unk (valsv l)]
def valsv : List Val → List AV
  | [] => []
  | c :: l => valv c :: valsv l
end
theorem valsv_map : ∀ (l : List Val), valsv l = l.map valv
  | [] => rfl
  | s :: l => by simp only [valsv, List.map_cons, valsv_map l]
abbrev vall (l : List Val) : AV := .sl .unk (l.map valv)
theorem valv_eq (v : Val) : valv v = .agg [i64 v.kind, i64 v.n, str v.s, strl v.names, vall v.l] := by
  cases v; simp only [valv, valsv_map]; rfl
mutual
def mxV : Val → Nat
  | .mk _ _ s ns l _ => max (max s.size (mxB ns)) (mxVs l)
def mxVs : List Val → Nat
  | [] => 0
  | c :: l => max (l.length + 1) (max (mxV c) (mxVs l))
end
theorem mxV_eq (v : Val) : mxV v = max (max v.s.size (mxB v.names)) (mxVs v.l) := by cases v; simp only [mxV]; rfl
theorem mxVs_len : ∀ (l : List Val), l.length ≤ mxVs l
  | [] => Nat.zero_le _
  | s :: l => by simp only [mxVs, List.length_cons]; omega
theorem mxVs_mem : ∀ {l : List Val} {s : Val}, s ∈ l → mxV s ≤ mxVs l
  | x :: l, s, h => by
    rcases List.mem_cons.1 h with rfl | h
    · simp only [mxVs]; omega
    · have := mxVs_mem h; simp only [mxVs]; omega
mutual
def szV : Val → Nat
  | .mk _ _ _ _ l _ => 1 + szVs l
def szVs : List Val → Nat
  | [] => 0
  | c :: l => szV c + szVs l
end
theorem szV_eq (v : Val) : szV v = 1 + szVs v.l := by cases v; simp only [szV]; rfl
theorem szVs_mem : ∀ {l : List Val} {s : Val}, s ∈ l → szV s ≤ szVs l
  | x :: l, s, h => by
    rcases List.mem_cons.1 h with rfl | h
    · simp only [szVs]; omega
    · have := szVs_mem h; simp only [szVs]; omega
theorem szVs_len : ∀ (l : List Val), l.length ≤ szVs l
  | [] => Nat.zero_le _
  | s :: l => by have := szVs_len l; have := szV_eq s; simp only [szVs, List.length_cons]; omega

mutual
inductive Ty where
  | mk (kind : Int) (name : ByteArray) (con : Con) (ext : Bool) (frm : ByteArray) (names more : List ByteArray) (parts adds : List Prt) (elem : List Ty) (ok : InR kind)
inductive Prt where
  | mk (name : ByteArray) (t : Ty) (opt : Bool) (dfl : List Val)
end
def Ty.kind : Ty → Int | .mk a _ _ _ _ _ _ _ _ _ _ => a
def Ty.name : Ty → ByteArray | .mk _ a _ _ _ _ _ _ _ _ _ => a
def Ty.con : Ty → Con | .mk _ _ a _ _ _ _ _ _ _ _ => a
def Ty.ext : Ty → Bool | .mk _ _ _ a _ _ _ _ _ _ _ => a
def Ty.frm : Ty → ByteArray | .mk _ _ _ _ a _ _ _ _ _ _ => a
def Ty.names : Ty → List ByteArray | .mk _ _ _ _ _ a _ _ _ _ _ => a
def Ty.more : Ty → List ByteArray | .mk _ _ _ _ _ _ a _ _ _ _ => a
def Ty.parts : Ty → List Prt | .mk _ _ _ _ _ _ _ a _ _ _ => a
def Ty.adds : Ty → List Prt | .mk _ _ _ _ _ _ _ _ a _ _ => a
def Ty.elem : Ty → List Ty | .mk _ _ _ _ _ _ _ _ _ a _ => a
theorem Ty.ok (t : Ty) : InR t.kind := by cases t with | mk a b c d e f g h i j k => exact k
def Prt.name : Prt → ByteArray | .mk a _ _ _ => a
def Prt.t : Prt → Ty | .mk _ a _ _ => a
def Prt.opt : Prt → Bool | .mk _ _ a _ => a
def Prt.dfl : Prt → List Val | .mk _ _ _ a => a
theorem mxV_le (v : Val) : v.s.size ≤ mxV v ∧ mxB v.names ≤ mxV v ∧ mxVs v.l ≤ mxV v := by have := mxV_eq v; omega
end Go.Abs.Fr
