/-
  NARROWER THAN 'FOR EVERY INPUT', by the rows' own cells (each row's printed sentence says how): MemberCanons: loops · MemberOnce: loops · MemberKinds: loops · MemberParts: loops · MemberExtends: loops.
  DERIVED. THE GIVEN ROWS OF THIS SEAT. 5 by the template 'for every input the law returns true; each argument reads behind the call as it read before'; 0 by the template 'total and deterministic' (their statements: YtloimemacnjpgaaGreatTotals.lean).
  GIVEN WITH THE SEED: the statements are not yours to turn. If you find one false, say at which input.
  Laid BY PROGRAM, IN A SANDBOX (cutbox-rows.mjs): the forced cells as the released guide's own fill.sh prints them over the translation 7c3a7913cdcfbedf… (all of the seat's roots in one cut). By AI agents, Wed Nov 11 2026. No macro, syntax, notation, axiom, sorry.
-/
import Derived.Test.YtloimemacnjpgaaGreatChecked
import GoSem.Claim
import GoSem.ClaimJoined
import GoSem.ClaimMapViews
import Derived.JoinedTies
import Derived.KernelRfl
namespace Go.Proofs.YtloimemacnjpgaaGreat
/- THE CELL 'sum', in the pinned program and in every row, IS THE sha256 OF THE DUMP (.gsa) THAT YtloimemacnjpgaaGreatProg.lean LOADS. Nothing in Lean hashes anything: it is a label: what it is worth is what the hold of that sum in a sandbox is worth. -/
noncomputable def Tryz.pinned : Pinned := { name := "ytloimemacnjpgaagreat", sum := "7c3a7913cdcfbedf64f6d705a76fdbb57318cb527a51108448eed179ae7b3c6e", checked := Tryz.checked }
namespace Rows
def none {H : Type} : Left H := { results := [], args := [] }

/-- 'spandrellaw15.MemberCanons': WHATEVER THE INPUT: true; the input reads as it did. -/
def memberCanonsSpec : ChangeSpec := { name := "memberCanons", fn := fun _ => fun
  | [d1, d2, d3] => { results := [.lit (.bool true)], args := [d1, d2, d3] }
  | _ => none }
def memberCanonsRow : OpenClaim := { program := "ytloimemacnjpgaagreat", sum := "7c3a7913cdcfbedf64f6d705a76fdbb57318cb527a51108448eed179ae7b3c6e", func := "spandrel/spandrellaw15.MemberCanons", spec := "memberCanons", inPlace := ["internal/bytealg.IndexByte"], unfollowed := true, recurses := true, loops := true, apart := false }
def MemberCanonsSaid : Prop := memberCanonsRow.holds Tryz.pinned (OpenSpec.ofChange memberCanonsSpec)

/-- ITS FALSE NEIGHBOUR: 'it returns false'. Refute it at one input. -/
def memberCanonsWrong : ChangeSpec := { name := "memberCanons", fn := fun _ => fun
  | [d1, d2, d3] => { results := [.lit (.bool false)], args := [d1, d2, d3] }
  | _ => none }
def MemberCanonsWrongFalsely : Prop := memberCanonsRow.holds Tryz.pinned (OpenSpec.ofChange memberCanonsWrong)

/-- 'spandrellaw15.MemberOnce': WHATEVER THE INPUT: true; the input reads as it did. -/
def memberOnceSpec : ChangeSpec := { name := "memberOnce", fn := fun _ => fun
  | [d1, d2] => { results := [.lit (.bool true)], args := [d1, d2] }
  | _ => none }
def memberOnceRow : OpenClaim := { program := "ytloimemacnjpgaagreat", sum := "7c3a7913cdcfbedf64f6d705a76fdbb57318cb527a51108448eed179ae7b3c6e", func := "spandrel/spandrellaw15.MemberOnce", spec := "memberOnce", inPlace := ["internal/bytealg.IndexByte"], unfollowed := true, recurses := true, loops := true, apart := false }
def MemberOnceSaid : Prop := memberOnceRow.holds Tryz.pinned (OpenSpec.ofChange memberOnceSpec)

/-- ITS FALSE NEIGHBOUR: 'it returns false'. Refute it at one input. -/
def memberOnceWrong : ChangeSpec := { name := "memberOnce", fn := fun _ => fun
  | [d1, d2] => { results := [.lit (.bool false)], args := [d1, d2] }
  | _ => none }
def MemberOnceWrongFalsely : Prop := memberOnceRow.holds Tryz.pinned (OpenSpec.ofChange memberOnceWrong)

/-- 'spandrellaw15.MemberKinds': WHATEVER THE INPUT: true; the input reads as it did. -/
def memberKindsSpec : ChangeSpec := { name := "memberKinds", fn := fun _ => fun
  | [d1, d2, d3] => { results := [.lit (.bool true)], args := [d1, d2, d3] }
  | _ => none }
def memberKindsRow : OpenClaim := { program := "ytloimemacnjpgaagreat", sum := "7c3a7913cdcfbedf64f6d705a76fdbb57318cb527a51108448eed179ae7b3c6e", func := "spandrel/spandrellaw15.MemberKinds", spec := "memberKinds", inPlace := ["internal/bytealg.IndexByte"], unfollowed := true, recurses := true, loops := true, apart := false }
def MemberKindsSaid : Prop := memberKindsRow.holds Tryz.pinned (OpenSpec.ofChange memberKindsSpec)

/-- ITS FALSE NEIGHBOUR: 'it returns false'. Refute it at one input. -/
def memberKindsWrong : ChangeSpec := { name := "memberKinds", fn := fun _ => fun
  | [d1, d2, d3] => { results := [.lit (.bool false)], args := [d1, d2, d3] }
  | _ => none }
def MemberKindsWrongFalsely : Prop := memberKindsRow.holds Tryz.pinned (OpenSpec.ofChange memberKindsWrong)

/-- 'spandrellaw15.MemberParts': WHATEVER THE INPUT: true; the input reads as it did. -/
def memberPartsSpec : ChangeSpec := { name := "memberParts", fn := fun _ => fun
  | [d1, d2, d3] => { results := [.lit (.bool true)], args := [d1, d2, d3] }
  | _ => none }
def memberPartsRow : OpenClaim := { program := "ytloimemacnjpgaagreat", sum := "7c3a7913cdcfbedf64f6d705a76fdbb57318cb527a51108448eed179ae7b3c6e", func := "spandrel/spandrellaw15.MemberParts", spec := "memberParts", inPlace := ["internal/bytealg.IndexByte"], unfollowed := true, recurses := true, loops := true, apart := false }
def MemberPartsSaid : Prop := memberPartsRow.holds Tryz.pinned (OpenSpec.ofChange memberPartsSpec)

/-- ITS FALSE NEIGHBOUR: 'it returns false'. Refute it at one input. -/
def memberPartsWrong : ChangeSpec := { name := "memberParts", fn := fun _ => fun
  | [d1, d2, d3] => { results := [.lit (.bool false)], args := [d1, d2, d3] }
  | _ => none }
def MemberPartsWrongFalsely : Prop := memberPartsRow.holds Tryz.pinned (OpenSpec.ofChange memberPartsWrong)

/-- 'spandrellaw15.MemberExtends': WHATEVER THE INPUT: true; the input reads as it did. -/
def memberExtendsSpec : ChangeSpec := { name := "memberExtends", fn := fun _ => fun
  | [d1, d2] => { results := [.lit (.bool true)], args := [d1, d2] }
  | _ => none }
def memberExtendsRow : OpenClaim := { program := "ytloimemacnjpgaagreat", sum := "7c3a7913cdcfbedf64f6d705a76fdbb57318cb527a51108448eed179ae7b3c6e", func := "spandrel/spandrellaw15.MemberExtends", spec := "memberExtends", inPlace := ["internal/bytealg.IndexByte"], unfollowed := true, recurses := true, loops := true, apart := false }
def MemberExtendsSaid : Prop := memberExtendsRow.holds Tryz.pinned (OpenSpec.ofChange memberExtendsSpec)

/-- ITS FALSE NEIGHBOUR: 'it returns false'. Refute it at one input. -/
def memberExtendsWrong : ChangeSpec := { name := "memberExtends", fn := fun _ => fun
  | [d1, d2] => { results := [.lit (.bool false)], args := [d1, d2] }
  | _ => none }
def MemberExtendsWrongFalsely : Prop := memberExtendsRow.holds Tryz.pinned (OpenSpec.ofChange memberExtendsWrong)

/- THE SECOND FORM. 'bulk': how many values and letters a reading holds, each counted each time it is reached (what is shared counts as often as it is met; a slice's spare places count too). A statement '..UptoSaid' is the law's where the arguments, and the package variables that the reading takes, are together of bulk at most 1048576: NARROWER than '..Said'. Prove '..Said' where nothing that the law and all that it calls make is longer than what came in: it says more and counts as full. Else prove '..UptoSaid'. A law counts once. -/
mutual
def uptoBulk {H : Type} : DataW H → Nat
  | .lit (.string bytes) => bytes.length + 1
  | .lit _ => 1
  | .nil => 1
  | .ptr d => uptoBulk d + 1
  | .slice elems spare => uptoBulkAll elems + uptoBulkAll spare + 1
  | .agg parts => uptoBulkAll parts + 1
  | .iface _ d => uptoBulk d + 1
  | .map entries => uptoBulkEntries entries + 1
  | .held _ => 1
def uptoBulkAll {H : Type} : List (DataW H) → Nat
  | [] => 0
  | d :: r => uptoBulk d + uptoBulkAll r
def uptoBulkEntries {H : Type} : List (Lit × DataW H) → Nat
  | [] => 0
  | x :: r => uptoBulkEntry x + uptoBulkEntries r
def uptoBulkEntry {H : Type} : Lit × DataW H → Nat
  | (.string bytes, d) => bytes.length + uptoBulk d + 1
  | (_, d) => uptoBulk d + 1
 end
def uptoSmall : (H : Type) → List (DataW H) → Bool := fun _ ds => decide (uptoBulkAll ds ≤ 1048576)
def OpenSpec.upto (s : _root_.Go.ChangeSpec) : _root_.Go.OpenSpec := { _root_.Go.OpenSpec.ofChange s with cond := some uptoSmall }

/-- 'spandrellaw15.MemberCanons', WHERE WHAT IT READS IS OF BULK AT MOST 1048576: true; the input reads as it did. -/
def memberCanonsUptoRow : OpenClaim := { program := "ytloimemacnjpgaagreat", sum := "7c3a7913cdcfbedf64f6d705a76fdbb57318cb527a51108448eed179ae7b3c6e", func := "spandrel/spandrellaw15.MemberCanons", spec := "memberCanons", inPlace := ["internal/bytealg.IndexByte"], unfollowed := true, recurses := true, loops := true, apart := false, narrowed := true }
def MemberCanonsUptoSaid : Prop := memberCanonsUptoRow.holds Tryz.pinned (OpenSpec.upto memberCanonsSpec)

/-- 'spandrellaw15.MemberOnce', WHERE WHAT IT READS IS OF BULK AT MOST 1048576: true; the input reads as it did. -/
def memberOnceUptoRow : OpenClaim := { program := "ytloimemacnjpgaagreat", sum := "7c3a7913cdcfbedf64f6d705a76fdbb57318cb527a51108448eed179ae7b3c6e", func := "spandrel/spandrellaw15.MemberOnce", spec := "memberOnce", inPlace := ["internal/bytealg.IndexByte"], unfollowed := true, recurses := true, loops := true, apart := false, narrowed := true }
def MemberOnceUptoSaid : Prop := memberOnceUptoRow.holds Tryz.pinned (OpenSpec.upto memberOnceSpec)

/-- 'spandrellaw15.MemberKinds', WHERE WHAT IT READS IS OF BULK AT MOST 1048576: true; the input reads as it did. -/
def memberKindsUptoRow : OpenClaim := { program := "ytloimemacnjpgaagreat", sum := "7c3a7913cdcfbedf64f6d705a76fdbb57318cb527a51108448eed179ae7b3c6e", func := "spandrel/spandrellaw15.MemberKinds", spec := "memberKinds", inPlace := ["internal/bytealg.IndexByte"], unfollowed := true, recurses := true, loops := true, apart := false, narrowed := true }
def MemberKindsUptoSaid : Prop := memberKindsUptoRow.holds Tryz.pinned (OpenSpec.upto memberKindsSpec)

/-- 'spandrellaw15.MemberParts', WHERE WHAT IT READS IS OF BULK AT MOST 1048576: true; the input reads as it did. -/
def memberPartsUptoRow : OpenClaim := { program := "ytloimemacnjpgaagreat", sum := "7c3a7913cdcfbedf64f6d705a76fdbb57318cb527a51108448eed179ae7b3c6e", func := "spandrel/spandrellaw15.MemberParts", spec := "memberParts", inPlace := ["internal/bytealg.IndexByte"], unfollowed := true, recurses := true, loops := true, apart := false, narrowed := true }
def MemberPartsUptoSaid : Prop := memberPartsUptoRow.holds Tryz.pinned (OpenSpec.upto memberPartsSpec)

/-- 'spandrellaw15.MemberExtends', WHERE WHAT IT READS IS OF BULK AT MOST 1048576: true; the input reads as it did. -/
def memberExtendsUptoRow : OpenClaim := { program := "ytloimemacnjpgaagreat", sum := "7c3a7913cdcfbedf64f6d705a76fdbb57318cb527a51108448eed179ae7b3c6e", func := "spandrel/spandrellaw15.MemberExtends", spec := "memberExtends", inPlace := ["internal/bytealg.IndexByte"], unfollowed := true, recurses := true, loops := true, apart := false, narrowed := true }
def MemberExtendsUptoSaid : Prop := memberExtendsUptoRow.holds Tryz.pinned (OpenSpec.upto memberExtendsSpec)

end Rows
end Go.Proofs.YtloimemacnjpgaaGreat
