/- The value operations: what is shown of the abstract one holds of the machine's. -/
import Derived.Test.YtenhfnadhmjloaaDoorAbsC
set_option linter.all false
namespace Go.Abs
open Go Go.RowKit

def NoOwn (av : AV) : Prop := ∀ k es, av ≠ .sl (.own k) es
theorem NoOwn.strip (av : AV) : NoOwn av.strip := by
  intro k es h
  cases av <;> simp [AV.strip] at h
  rename_i c _
  cases c <;> simp at h
theorem NoOwn.spare {av : AV} (h : NoOwn av) {w g n s v} : SpareOk w g n s av v := by
  cases av <;> try exact trivial
  rename_i c es
  cases c <;> try exact trivial
  exact absurd rfl (h _ _)

/-- What a value operation's run must be. -/
def VOk (P : Program) (w : World) (g : Gh) (n : Nat) (s : Sem Next) (K : AV → Prop) : Prop :=
  ∃ v av, s.run P w = .ok (.value v) w ∧ Rep w g n av v ∧ NoOwn av ∧ K av

theorem VOk.of {P w g n} {s : Sem Value} {v : Value} {av : AV} {K : AV → Prop} (h : s.run P w = .ok v w) (hr : Rep w g n av v) (hn : NoOwn av) (hk : K av) :
    VOk P w g n (do pure (.value (← s))) K :=
  ⟨v, av, by simp [h], hr, hn, hk⟩

theorem Rep.lit_iff {w g n x v} : Rep w g n (.lit x) v ↔ v = x := by simp [Rep]

theorem NoOwn.lit (v : Value) : NoOwn (.lit v) := by intro _ _ h; cases h
theorem NoOwn.agg (v : List AV) : NoOwn (.agg v) := by intro _ _ h; cases h
theorem NoOwn.cp (v : List AV) : NoOwn (.cp v) := by intro _ _ h; cases h
theorem NoOwn.ref (a b : Nat) : NoOwn (.ref a b) := by intro _ _ h; cases h
theorem NoOwn.fn (a b c) : NoOwn (.fn a b c) := by intro _ _ h; cases h
theorem NoOwn.ifc (a b) : NoOwn (.ifc a b) := by intro _ _ h; cases h
theorem NoOwn.unk (b) : NoOwn (.sl .unk b) := by intro _ _ h; cases h

theorem run_und {P : Program} {t : TypeId} {d : TypeDesc} (h : P.underlying t = some d) (w : World) : (underlying t).run P w = .ok d w := by
  simp [underlying, h]
theorem run_inf {P : Program} {t : TypeId} {i : TypeInfo} (h : P.info? t = some i) (w : World) : (typeInfo t).run P w = .ok i w := by
  simp [typeInfo, h]
theorem run_siz {P : Program} {t : TypeId} {i : TypeInfo} (h : P.info? t = some i) (w : World) : (sizeOf t).run P w = .ok i.size w := by
  simp [sizeOf, run_inf h]

theorem aggN_spec {P : Program} {t : TypeId} {n : Option Nat} (h : aggN P t = some n) (w : World) :
    (isAgg t).run P w = .ok n.isSome w ∧ ∃ i, P.info? t = some i ∧ ∀ k, n = some k → i.size = k := by
  unfold aggN at h
  split at h <;> simp at h <;> subst h
  · rename_i h1 h2; simp [isAgg, run_und h1, h2]
  · rename_i h1 h2; simp [isAgg, run_und h1, h2]
  · rename_i d i hn1 hn2 h1 h2
    refine ⟨?_, _, h2, by simp⟩
    simp only [isAgg, Sem.run_bind, run_und h1, Result.andThen_ok]
    rfl

theorem string_eq (a b : ByteArray) : (a.toList == b.toList) = decide (a = b) := by
  have : a.toList = b.toList ↔ a = b := by
    constructor
    · intro h
      rw [ByteArray.toList_eq, ByteArray.toList_eq] at h
      exact ByteArray.ext (Array.ext' h)
    · rintro rfl; rfl
  by_cases h : a = b <;> simp [h, this]

theorem ibits_run {P : Program} {w : World} {op : BinOp} {k : IntKind} {a b : Int} (h : op = .and ∨ op = .or ∨ op = .xor ∨ op = .andNot) :
    (Op.intBits op k a b).run P w = .ok (.int k (ibits op k a b)) w := by
  rcases h with rfl | rfl | rfl | rfl <;> rfl

theorem binW_sound {P : Program} {w : World} {op : BinOp} {t : TypeId} {u v : Value} {K : Value → Prop} (h : binW op u v K) :
    ∃ r, (binOp op t u v).run P w = .ok r w ∧ K r ∧ (∀ x y : Operand, (eqGuard op t x y u v).run P w = .ok () w) := by
  unfold binW at h
  split at h
  · rename_i k a k' b
    have hg : ∀ x y : Operand, (eqGuard op t x y (.int k a) (.int k' b)).run P w = .ok () w := by
      intro x y; unfold eqGuard; split <;> simp
    cases op <;> simp only at h
    case shl => exact ⟨_, by simp [binOp, Op.shift, show ¬ b < 0 by omega], h.2, hg⟩
    case shr => exact ⟨_, by simp [binOp, Op.shift, show ¬ b < 0 by omega], h.2, hg⟩
    case quo => obtain ⟨rfl, h1, h2⟩ := h; exact ⟨_, by simp [binOp, Op.intDiv, h1], h2, hg⟩
    case rem => obtain ⟨rfl, h1, h2⟩ := h; exact ⟨_, by simp [binOp, Op.intDiv, h1], h2, hg⟩
    case and => obtain ⟨rfl, h2⟩ := h; exact ⟨_, by simp [binOp, ibits_run], h2, hg⟩
    case or => obtain ⟨rfl, h2⟩ := h; exact ⟨_, by simp [binOp, ibits_run], h2, hg⟩
    case xor => obtain ⟨rfl, h2⟩ := h; exact ⟨_, by simp [binOp, ibits_run], h2, hg⟩
    case andNot => obtain ⟨rfl, h2⟩ := h; exact ⟨_, by simp [binOp, ibits_run], h2, hg⟩
    case add => obtain ⟨rfl, h2⟩ := h; exact ⟨_, by simp [binOp, Op.intArith], h2, hg⟩
    case sub => obtain ⟨rfl, h2⟩ := h; exact ⟨_, by simp [binOp, Op.intArith], h2, hg⟩
    case mul => obtain ⟨rfl, h2⟩ := h; exact ⟨_, by simp [binOp, Op.intArith], h2, hg⟩
    case eql => obtain ⟨rfl, h2⟩ := h; exact ⟨_, by simp [binOp, Op.intCmp]; rfl, h2, hg⟩
    case neq => obtain ⟨rfl, h2⟩ := h; exact ⟨_, by simp [binOp, Op.intCmp, bne]; rfl, h2, hg⟩
    case lss => obtain ⟨rfl, h2⟩ := h; exact ⟨_, by simp [binOp, Op.intCmp], h2, hg⟩
    case leq => obtain ⟨rfl, h2⟩ := h; exact ⟨_, by simp [binOp, Op.intCmp], h2, hg⟩
    case gtr => obtain ⟨rfl, h2⟩ := h; exact ⟨_, by simp [binOp, Op.intCmp], h2, hg⟩
    case geq => obtain ⟨rfl, h2⟩ := h; exact ⟨_, by simp [binOp, Op.intCmp], h2, hg⟩
  · rename_i a b
    have hg : ∀ x y : Operand, (eqGuard op t x y (.string a) (.string b)).run P w = .ok () w := by
      intro x y; unfold eqGuard; split <;> simp
    cases op <;> simp only at h
    case add =>
      refine ⟨_, ?_, h.2, hg⟩
      simp only [binOp, Op.stringOp]
      rw [if_neg]
      · rfl
      · simp [IntKind.max, IntKind.signed, IntKind.bits]; omega
    case eql => exact ⟨_, by simp [binOp, Op.stringOp, string_eq], h, hg⟩
    case neq => exact ⟨_, by simp [binOp, Op.stringOp, string_eq], h, hg⟩
    case lss => exact ⟨_, by simp [binOp, Op.stringOp, sless], h, hg⟩
    case leq => exact ⟨_, by simp [binOp, Op.stringOp, string_eq, sless], h, hg⟩
    case gtr => exact ⟨_, by simp [binOp, Op.stringOp, string_eq, sless], h, hg⟩
    case geq => exact ⟨_, by simp [binOp, Op.stringOp, sless], h, hg⟩
    all_goals exact h.elim
  · exact h.elim


theorem equal_eq (t : TypeId) (x y : Value) : Op.equal t x y = Op.equalIn (9999 + 1) t x y := rfl

theorem wp_eqB {P : Program} {w : World} {t : TypeId} (ht : isBool P t = true) (a b : Bool) :
    (Op.equal t (.bool a) (.bool b)).run P w = .ok (decide (a = b)) w := by
  unfold isBool at ht
  split at ht
  · rename_i hu
    rw [equal_eq]
    generalize 9999 = d
    simp only [Op.equalIn, Sem.run_bind, run_und hu, Result.andThen_ok]
    cases a <;> cases b <;> rfl
  · cases ht

theorem nil0 {w g n x u a} (hx : nilness 0 x = some a) (hr : Rep w g n x u) : (a = true ∧ u = .pointer none) ∨ (a = false ∧ ∃ p, u = .pointer (some p)) := by
  unfold nilness at hx
  split at hx <;> simp at hx <;> subst hx <;> simp only [Rep] at hr <;> try contradiction
  · exact .inl ⟨rfl, hr⟩
  · exact .inr ⟨rfl, _, hr.1⟩
  · obtain ⟨_, _, _, h, _⟩ := hr; exact .inr ⟨rfl, _, h⟩
theorem nil1 {w g n x u a} (hx : nilness 1 x = some a) (hr : Rep w g n x u) : (a = true ∧ u = .nilFunc) ∨ (a = false ∧ ∃ f p q, u = .func f p q) := by
  unfold nilness at hx
  split at hx <;> simp at hx <;> subst hx <;> simp only [Rep] at hr <;> try contradiction
  · exact .inl ⟨rfl, hr⟩
  · obtain ⟨_, _, h, _⟩ := hr; exact .inr ⟨rfl, _, _, _, h⟩
theorem nil2 {w g n x u a} (hx : nilness 2 x = some a) (hr : Rep w g n x u) : (a = true ∧ u = .nilIface) ∨ (a = false ∧ ∃ t p, u = .iface t p) := by
  unfold nilness at hx
  split at hx <;> simp at hx <;> subst hx <;> simp only [Rep] at hr <;> try contradiction
  · exact .inl ⟨rfl, hr⟩
  · obtain ⟨_, h, _⟩ := hr; exact .inr ⟨rfl, _, _, h⟩
theorem nil3 {w g n x u a} (hx : nilness 3 x = some a) (hr : Rep w g n x u) : (a = true ∧ u = .map none) := by
  unfold nilness at hx
  split at hx <;> simp at hx <;> subst hx <;> simp only [Rep] at hr <;> try contradiction
  exact ⟨rfl, hr⟩

theorem eqN_sound {P : Program} {w : World} {g : Gh} {n : Nat} {t : TypeId} {c : Bool} {kind : Nat} (ht : nilKind P t c = some kind) {x y : AV} {u v : Value} {a b : Bool}
    (hx : nilness kind x = some a) (hy : nilness kind y = some b) (hab : a = true ∨ b = true) (hu : Rep w g n x u) (hv : Rep w g n y v) :
    (Op.equal t u v).run P w = .ok (a && b) w ∧ (u = .nilIface → v = .nilIface → c = true) ∧ (∀ cs, u ≠ .agg cs) := by
  rw [equal_eq]
  generalize 9999 = d
  unfold nilKind at ht
  split at ht <;> simp at ht
  · rename_i hd
    subst ht
    rcases nil0 hx hu with ⟨rfl, rfl⟩ | ⟨rfl, p, rfl⟩ <;> rcases nil0 hy hv with ⟨rfl, rfl⟩ | ⟨rfl, p, rfl⟩ <;> simp at hab <;>
      exact ⟨by simp [Op.equalIn, run_und hd], by simp, by simp⟩
  · rename_i hd
    subst ht
    rcases nil1 hx hu with ⟨rfl, rfl⟩ | ⟨rfl, _, _, _, rfl⟩ <;> rcases nil1 hy hv with ⟨rfl, rfl⟩ | ⟨rfl, _, _, _, rfl⟩ <;> simp at hab <;>
      exact ⟨by simp [Op.equalIn, run_und hd], by simp, by simp⟩
  · rename_i hd
    obtain ⟨hc, ht⟩ := ht
    subst ht
    rcases nil2 hx hu with ⟨rfl, rfl⟩ | ⟨rfl, _, _, rfl⟩ <;> rcases nil2 hy hv with ⟨rfl, rfl⟩ | ⟨rfl, _, _, rfl⟩ <;> simp at hab <;>
      exact ⟨by simp [Op.equalIn, run_und hd], by simp [hc], by simp⟩
  · rename_i hd
    subst ht
    obtain ⟨rfl, rfl⟩ := nil3 hx hu
    obtain ⟨rfl, rfl⟩ := nil3 hy hv
    exact ⟨by simp [Op.equalIn, run_und hd], by simp, by simp⟩

theorem ofCell_rep {w g n} (v : Value) : Rep w g n (ofCell v) v := by
  unfold ofCell
  split
  · simp only [Rep]; exact ⟨none, 0, 0, rfl, rfl, Nat.le_refl _, fun _ => rfl, fun _ => rfl, fun _ h => by cases h⟩
  · simp [Rep]

theorem Reps.ofCells {w g n} : ∀ (l : List Value), Reps w g n (l.map ofCell) l
  | [] => by simp [Reps]
  | v :: l => Reps.cons'.2 ⟨ofCell_rep v, Reps.ofCells l⟩

theorem ofCell_noOwn (v : Value) : NoOwn (ofCell v) := by
  unfold ofCell
  split
  · intro _ _ h; cases h
  · exact NoOwn.lit _

theorem ofConst_rep {w g n} (v : Value) : Rep w g n (ofConst v) v := by
  unfold ofConst
  split
  · simp only [Rep]; exact ⟨none, 0, 0, rfl, rfl, Nat.le_refl _, fun _ => rfl, fun _ => rfl, fun _ h => by cases h⟩
  · rename_i cs; simp only [Rep]; exact ⟨cs, rfl, Reps.ofCells _⟩
  · simp [Rep]

def ASt.ev (E : Env) (σ : ASt) : Operand → AV
  | .tmp t => (look σ.tmps t).strip
  | .const v => ofConst v
  | .global i => match E.gl i with | some cs => .cp cs | none => .any
  | .func f => .fn (.func f) [] []

theorem Reps.zero_later {w g n} {as vs} (h : Reps w g 0 as vs) : Reps w g n as vs :=
  Reps.later ⟨Nat.zero_le _, fun _ _ => rfl, fun _ _ _ h h' => ⟨h, h'⟩⟩ _ _ h

theorem ASt.ev_rep {E B σ a w g} (h : RA E B σ a w g) (x : Operand) : Rep w g σ.heap.length (σ.ev E x) (a.eval x) := by
  cases x with
  | tmp t => exact (h.tmps t).1.strip
  | const v => exact ofConst_rep v
  | func f => simp [ASt.ev, Act.eval, Rep, Reps]
  | global i =>
    simp only [ASt.ev, Act.eval]
    split
    · rename_i cs hcs
      obtain ⟨vs, h1, h2⟩ := h.gl i cs hcs
      simp only [Rep]
      exact ⟨i, 0, vs, rfl, h1, h2.zero_later⟩
    · simp [Rep]

theorem ASt.ev_noOwn {E σ} (x : Operand) : NoOwn (ASt.ev E σ x) := by
  cases x with
  | tmp t => exact NoOwn.strip _
  | const v =>
    simp only [ASt.ev, ofConst]
    split
    · intro _ _ h; cases h
    · exact NoOwn.agg _
    · exact NoOwn.lit _
  | func f => exact NoOwn.fn _ _ _
  | global i => simp only [ASt.ev]; split <;> intro _ _ h <;> cases h

end Go.Abs
