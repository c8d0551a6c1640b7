/- Tables, as data; what stands for them. -/
import Derived.Test.YtloimemacnjpgaaGreatS15FrC
import Derived.Test.YtloimemacnjpgaaGreatAbsFz
import Derived.Test.YtloimemacnjpgaaGreatAbsK2
set_option linter.all false
namespace Go.Abs.Fr
open Go Go.Abs Go.Proofs
set_option linter.unusedSimpArgs false
set_option maxRecDepth 100000

structure Rg where
  lo : Int
  hi : Int
  ok : InR lo ∧ InR hi
def rgv (r : Rg) : AV := .agg [i64 r.lo, i64 r.hi]
abbrev rgl (l : List Rg) : AV := .sl .unk (l.map rgv)
structure Fld where
  name : ByteArray
  t : Int
  opt : Bool
  dfl : List Val
  ok : InR t
def fldv (f : Fld) : AV := .agg [str f.name, i64 f.t, boolv f.opt, vall f.dfl]
abbrev fldl (l : List Fld) : AV := .sl .unk (l.map fldv)
structure Dsc where
  kind : Int
  ext : Bool
  set : List Rg
  lo : Int
  hi : Int
  frm : ByteArray
  names : List ByteArray
  more : List ByteArray
  parts : List Fld
  adds : List Fld
  order : List Int
  elem : Int
  ok : InR kind ∧ InR lo ∧ InR hi ∧ InR elem ∧ ∀ x, x ∈ order → InR x
abbrev intl (l : List Int) : AV := .sl .unk (l.map i64)
def dscv (d : Dsc) : AV := .agg [i64 d.kind, boolv d.ext, rgl d.set, i64 d.lo, i64 d.hi, str d.frm, strl d.names, strl d.more, fldl d.parts, fldl d.adds, intl d.order, i64 d.elem]
abbrev dscl (l : List Dsc) : AV := .sl .unk (l.map dscv)
theorem rgv_eq (r : Rg) : rgv r = .agg [i64 r.lo, i64 r.hi] := rfl
theorem fldv_eq (f : Fld) : fldv f = .agg [str f.name, i64 f.t, boolv f.opt, vall f.dfl] := rfl
theorem dscv_eq (d : Dsc) : dscv d = .agg [i64 d.kind, boolv d.ext, rgl d.set, i64 d.lo, i64 d.hi, str d.frm, strl d.names, strl d.more, fldl d.parts, fldl d.adds, intl d.order, i64 d.elem] := rfl

def BF (_M : Nat) (f : Fld) : Prop := f.name.size ≤ 2 ^ 47 ∧ mxVs f.dfl ≤ 2 ^ 47
def BD (M : Nat) (d : Dsc) : Prop := d.set.length ≤ M ∧ d.frm.size ≤ 2 ^ 47 ∧ d.names.length ≤ M ∧ d.more.length ≤ M ∧ d.parts.length ≤ M ∧ d.adds.length ≤ M ∧ d.order.length ≤ M ∧ (∀ f, f ∈ d.parts → BF M f) ∧ ∀ f, f ∈ d.adds → BF M f
def Dsc.fields (d : Dsc) : List Fld := d.parts ++ d.adds
theorem BD.fields {M : Nat} {d : Dsc} (h : BD M d) : ∀ f, f ∈ d.fields → BF M f := fun f hf => by
  rcases List.mem_append.1 hf with hf | hf
  · exact h.2.2.2.2.2.2.2.1 f hf
  · exact h.2.2.2.2.2.2.2.2 f hf
def parted (k : Int) : Bool := decide (k = 8) || decide (k = 9) || decide (k = 10)
noncomputable def eqV (a b : Val) : Bool := @decide (a = b) (Classical.propDecidable _)
theorem eqV_iff {a b : Val} : eqV a b = true ↔ a = b := by unfold eqV; exact @decide_eq_true_iff _ (Classical.propDecidable _)
theorem val_ext {a b : Val} (h1 : a.kind = b.kind) (h2 : a.n = b.n) (h3 : a.s = b.s) (h4 : a.names = b.names) (h5 : a.l = b.l) : a = b := by
  cases a; cases b
  simp only [Val.kind, Val.n, Val.s, Val.names, Val.l] at h1 h2 h3 h4 h5
  subst h1 h2 h3 h4 h5; rfl
theorem eqV_eq (a b : Val) : eqV a b = (decide (a.kind = b.kind) && (decide (a.n = b.n) && (decide (a.s = b.s) && (decide (a.names = b.names) && all2 eqV a.l b.l)))) := by
  rw [Bool.eq_iff_iff, eqV_iff]
  simp only [Bool.and_eq_true, decide_eq_true_eq]
  rw [all2_iff fun x _ y => eqV_iff]
  constructor
  · rintro rfl; exact ⟨rfl, rfl, rfl, rfl, rfl⟩
  · rintro ⟨h1, h2, h3, h4, h5⟩; exact val_ext h1 h2 h3 h4 h5
def deepV : Nat → Val → Bool
  | 0, v => parted v.kind
  | r + 1, v => parted v.kind && v.l.any (deepV r)
end Go.Abs.Fr
