/- The value operations: what is shown of the abstract one holds of the machine's. -/
import Derived.Test.YtgbedffflggenaaDoorAbsA
import Derived.Laws.StructEq
import Derived.Laws.Tables
import Derived.Great.BuildSlice
set_option linter.all false
namespace Go.Abs
open Go Go.RowKit

def NoOwn (av : AV) : Prop := (∀ k es, av ≠ .sl (.own k) es) ∧ (∀ e, av ≠ .bp e) ∧ ∀ te b, av ≠ .buf te b
theorem NoOwn.strip (av : AV) : NoOwn av.strip := by
  refine ⟨fun k es h => ?_, fun e h => ?_, fun te b h => ?_⟩
  all_goals
    cases av <;> simp [AV.strip] at h
    rename_i c _
    cases c <;> simp at h
theorem NoOwn.spare {av : AV} (h : NoOwn av) {w g n s v} : SpareOk w g n s av v := by
  cases av <;> try exact trivial
  rename_i c es
  cases c <;> try exact trivial
  exact absurd rfl (h.1 _ _)

/-- What a value operation's run must be. -/
def VOk (P : Program) (w : World) (g : Gh) (n : Nat) (s : Sem Next) (K : AV → Prop) : Prop :=
  ∃ v av, s.run P w = .ok (.value v) w ∧ Rep w g n av v ∧ NoOwn av ∧ K av

theorem VOk.of {P w g n} {s : Sem Value} {v : Value} {av : AV} {K : AV → Prop} (h : s.run P w = .ok v w) (hr : Rep w g n av v) (hn : NoOwn av) (hk : K av) :
    VOk P w g n (do pure (.value (← s))) K :=
  ⟨v, av, by simp [h], hr, hn, hk⟩

theorem Rep.lit_iff {w g n x v} : Rep w g n (.lit x) v ↔ v = x := by simp [Rep]

theorem NoOwn.lit (v : Value) : NoOwn (.lit v) := ⟨(fun _ _ h => by cases h), (fun _ h => by cases h), (fun _ _ h => by cases h)⟩
theorem NoOwn.agg (v : List AV) : NoOwn (.agg v) := ⟨(fun _ _ h => by cases h), (fun _ h => by cases h), (fun _ _ h => by cases h)⟩
theorem NoOwn.cp (v : List AV) : NoOwn (.cp v) := ⟨(fun _ _ h => by cases h), (fun _ h => by cases h), (fun _ _ h => by cases h)⟩
theorem NoOwn.ref (a b : Nat) : NoOwn (.ref a b) := ⟨(fun _ _ h => by cases h), (fun _ h => by cases h), (fun _ _ h => by cases h)⟩
theorem NoOwn.fn (a b c) : NoOwn (.fn a b c) := ⟨(fun _ _ h => by cases h), (fun _ h => by cases h), (fun _ _ h => by cases h)⟩
theorem NoOwn.ifc (a b) : NoOwn (.ifc a b) := ⟨(fun _ _ h => by cases h), (fun _ h => by cases h), (fun _ _ h => by cases h)⟩
theorem NoOwn.unk (b) : NoOwn (.sl .unk b) := ⟨(fun _ _ h => by cases h), (fun _ h => by cases h), (fun _ _ h => by cases h)⟩

theorem run_und {P : Program} {t : TypeId} {d : TypeDesc} (h : P.underlying t = some d) (w : World) : (underlying t).run P w = .ok d w := by
  simp [underlying, h]
theorem run_inf {P : Program} {t : TypeId} {i : TypeInfo} (h : P.info? t = some i) (w : World) : (typeInfo t).run P w = .ok i w := by
  simp [typeInfo, h]
theorem run_siz {P : Program} {t : TypeId} {i : TypeInfo} (h : P.info? t = some i) (w : World) : (sizeOf t).run P w = .ok i.size w := by
  simp [sizeOf, run_inf h]

theorem aggN_spec {P : Program} {t : TypeId} {n : Option Nat} (h : aggN P t = some n) (w : World) :
    (isAgg t).run P w = .ok n.isSome w ∧ ∃ i, P.info? t = some i ∧ ∀ k, n = some k → i.size = k := by
  unfold aggN at h
  split at h <;> simp at h <;> subst h
  · rename_i h1 h2; simp [isAgg, run_und h1, h2]
  · rename_i h1 h2; simp [isAgg, run_und h1, h2]
  · rename_i d i hn1 hn2 h1 h2
    refine ⟨?_, _, h2, by simp⟩
    simp only [isAgg, Sem.run_bind, run_und h1, Result.andThen_ok]
    rfl

theorem string_eq (a b : ByteArray) : (a.toList == b.toList) = decide (a = b) := by
  have : a.toList = b.toList ↔ a = b := by
    constructor
    · intro h
      rw [ByteArray.toList_eq, ByteArray.toList_eq] at h
      exact ByteArray.ext (Array.ext' h)
    · rintro rfl; rfl
  by_cases h : a = b <;> simp [h, this]

theorem ibits_run {P : Program} {w : World} {op : BinOp} {k : IntKind} {a b : Int} (h : op = .and ∨ op = .or ∨ op = .xor ∨ op = .andNot) :
    (Op.intBits op k a b).run P w = .ok (.int k (ibits op k a b)) w := by
  rcases h with rfl | rfl | rfl | rfl <;> rfl

theorem binW_sound {P : Program} {w : World} {op : BinOp} {t : TypeId} {u v : Value} {K : Value → Prop} (h : binW op u v K) :
    ∃ r, (binOp op t u v).run P w = .ok r w ∧ K r ∧ (∀ x y : Operand, (eqGuard op t x y u v).run P w = .ok () w) := by
  unfold binW at h
  split at h
  · rename_i k a k' b
    have hg : ∀ x y : Operand, (eqGuard op t x y (.int k a) (.int k' b)).run P w = .ok () w := by
      intro x y; unfold eqGuard; split <;> simp
    cases op <;> simp only at h
    case shl => exact ⟨_, by simp [binOp, Op.shift, show ¬ b < 0 by omega], h.2, hg⟩
    case shr => exact ⟨_, by simp [binOp, Op.shift, show ¬ b < 0 by omega], h.2, hg⟩
    case quo => obtain ⟨rfl, h1, h2⟩ := h; exact ⟨_, by simp [binOp, Op.intDiv, h1], h2, hg⟩
    case rem => obtain ⟨rfl, h1, h2⟩ := h; exact ⟨_, by simp [binOp, Op.intDiv, h1], h2, hg⟩
    case and => obtain ⟨rfl, h2⟩ := h; exact ⟨_, by simp [binOp, ibits_run], h2, hg⟩
    case or => obtain ⟨rfl, h2⟩ := h; exact ⟨_, by simp [binOp, ibits_run], h2, hg⟩
    case xor => obtain ⟨rfl, h2⟩ := h; exact ⟨_, by simp [binOp, ibits_run], h2, hg⟩
    case andNot => obtain ⟨rfl, h2⟩ := h; exact ⟨_, by simp [binOp, ibits_run], h2, hg⟩
    case add => obtain ⟨rfl, h2⟩ := h; exact ⟨_, by simp [binOp, Op.intArith], h2, hg⟩
    case sub => obtain ⟨rfl, h2⟩ := h; exact ⟨_, by simp [binOp, Op.intArith], h2, hg⟩
    case mul => obtain ⟨rfl, h2⟩ := h; exact ⟨_, by simp [binOp, Op.intArith], h2, hg⟩
    case eql => obtain ⟨rfl, h2⟩ := h; exact ⟨_, by simp [binOp, Op.intCmp]; rfl, h2, hg⟩
    case neq => obtain ⟨rfl, h2⟩ := h; exact ⟨_, by simp [binOp, Op.intCmp, bne]; rfl, h2, hg⟩
    case lss => obtain ⟨rfl, h2⟩ := h; exact ⟨_, by simp [binOp, Op.intCmp], h2, hg⟩
    case leq => obtain ⟨rfl, h2⟩ := h; exact ⟨_, by simp [binOp, Op.intCmp], h2, hg⟩
    case gtr => obtain ⟨rfl, h2⟩ := h; exact ⟨_, by simp [binOp, Op.intCmp], h2, hg⟩
    case geq => obtain ⟨rfl, h2⟩ := h; exact ⟨_, by simp [binOp, Op.intCmp], h2, hg⟩
  · rename_i a b
    have hg : ∀ x y : Operand, (eqGuard op t x y (.string a) (.string b)).run P w = .ok () w := by
      intro x y; unfold eqGuard; split <;> simp
    cases op <;> simp only at h
    case add =>
      refine ⟨_, ?_, h.2, hg⟩
      simp only [binOp, Op.stringOp]
      rw [if_neg]
      · rfl
      · simp [IntKind.max, IntKind.signed, IntKind.bits]; omega
    case eql => exact ⟨_, by simp [binOp, Op.stringOp, string_eq], h, hg⟩
    case neq => exact ⟨_, by simp [binOp, Op.stringOp, string_eq], h, hg⟩
    case lss => exact ⟨_, by simp [binOp, Op.stringOp, sless], h, hg⟩
    case leq => exact ⟨_, by simp [binOp, Op.stringOp, string_eq, sless], h, hg⟩
    case gtr => exact ⟨_, by simp [binOp, Op.stringOp, string_eq, sless], h, hg⟩
    case geq => exact ⟨_, by simp [binOp, Op.stringOp, sless], h, hg⟩
    all_goals exact h.elim
  · exact h.elim


theorem equal_eq (t : TypeId) (x y : Value) : Op.equal t x y = Op.equalIn (9999 + 1) t x y := rfl

theorem wp_eqB {P : Program} {w : World} {t : TypeId} (ht : isBool P t = true) (a b : Bool) :
    (Op.equal t (.bool a) (.bool b)).run P w = .ok (decide (a = b)) w := by
  unfold isBool at ht
  split at ht
  · rename_i hu
    rw [equal_eq]
    generalize 9999 = d
    simp only [Op.equalIn, Sem.run_bind, run_und hu, Result.andThen_ok]
    cases a <;> cases b <;> rfl
  · cases ht

theorem nil0 {w g n x u a} (hx : nilness 0 x = some a) (hr : Rep w g n x u) : (a = true ∧ u = .pointer none) ∨ (a = false ∧ ∃ p, u = .pointer (some p)) := by
  unfold nilness at hx
  split at hx <;> simp at hx <;> subst hx <;> simp only [Rep] at hr <;> try contradiction
  · exact .inl ⟨rfl, hr⟩
  · exact .inr ⟨rfl, _, hr.1⟩
  · obtain ⟨_, _, _, h, _⟩ := hr; exact .inr ⟨rfl, _, h⟩
theorem nil1 {w g n x u a} (hx : nilness 1 x = some a) (hr : Rep w g n x u) : (a = true ∧ u = .nilFunc) ∨ (a = false ∧ ∃ f p q, u = .func f p q) := by
  unfold nilness at hx
  split at hx <;> simp at hx <;> subst hx <;> simp only [Rep] at hr <;> try contradiction
  · exact .inl ⟨rfl, hr⟩
  · obtain ⟨_, _, h, _⟩ := hr; exact .inr ⟨rfl, _, _, _, h⟩
theorem nil2 {w g n x u a} (hx : nilness 2 x = some a) (hr : Rep w g n x u) : (a = true ∧ u = .nilIface) ∨ (a = false ∧ ∃ t p, u = .iface t p) := by
  unfold nilness at hx
  split at hx <;> simp at hx <;> subst hx <;> simp only [Rep] at hr <;> try contradiction
  · exact .inl ⟨rfl, hr⟩
  · obtain ⟨_, h, _⟩ := hr; exact .inr ⟨rfl, _, _, h⟩
theorem nil3 {w g n x u a} (hx : nilness 3 x = some a) (hr : Rep w g n x u) : (a = true ∧ u = .map none) := by
  unfold nilness at hx
  split at hx <;> simp at hx <;> subst hx <;> simp only [Rep] at hr <;> try contradiction
  exact ⟨rfl, hr⟩

theorem eqN_sound {P : Program} {w : World} {g : Gh} {n : Nat} {t : TypeId} {c : Bool} {kind : Nat} (ht : nilKind P t c = some kind) {x y : AV} {u v : Value} {a b : Bool}
    (hx : nilness kind x = some a) (hy : nilness kind y = some b) (hab : a = true ∨ b = true) (hu : Rep w g n x u) (hv : Rep w g n y v) :
    (Op.equal t u v).run P w = .ok (a && b) w ∧ (u = .nilIface → v = .nilIface → c = true) ∧ (∀ cs, u ≠ .agg cs) := by
  rw [equal_eq]
  generalize 9999 = d
  unfold nilKind at ht
  split at ht <;> simp at ht
  · rename_i hd
    subst ht
    rcases nil0 hx hu with ⟨rfl, rfl⟩ | ⟨rfl, p, rfl⟩ <;> rcases nil0 hy hv with ⟨rfl, rfl⟩ | ⟨rfl, p, rfl⟩ <;> simp at hab <;>
      exact ⟨by simp [Op.equalIn, run_und hd], by simp, by simp⟩
  · rename_i hd
    subst ht
    rcases nil1 hx hu with ⟨rfl, rfl⟩ | ⟨rfl, _, _, _, rfl⟩ <;> rcases nil1 hy hv with ⟨rfl, rfl⟩ | ⟨rfl, _, _, _, rfl⟩ <;> simp at hab <;>
      exact ⟨by simp [Op.equalIn, run_und hd], by simp, by simp⟩
  · rename_i hd
    obtain ⟨hc, ht⟩ := ht
    subst ht
    rcases nil2 hx hu with ⟨rfl, rfl⟩ | ⟨rfl, _, _, rfl⟩ <;> rcases nil2 hy hv with ⟨rfl, rfl⟩ | ⟨rfl, _, _, rfl⟩ <;> simp at hab <;>
      exact ⟨by simp [Op.equalIn, run_und hd], by simp [hc], by simp⟩
  · rename_i hd
    subst ht
    obtain ⟨rfl, rfl⟩ := nil3 hx hu
    obtain ⟨rfl, rfl⟩ := nil3 hy hv
    exact ⟨by simp [Op.equalIn, run_und hd], by simp, by simp⟩

theorem ofCell_rep {w g n} (v : Value) : Rep w g n (ofCell v) v := by
  unfold ofCell
  split
  · simp only [Rep]; exact ⟨none, 0, 0, rfl, rfl, Nat.le_refl _, fun _ => rfl, fun _ => rfl, fun _ h => by cases h⟩
  · simp [Rep]

theorem Reps.ofCells {w g n} : ∀ (l : List Value), Reps w g n (l.map ofCell) l
  | [] => by simp [Reps]
  | v :: l => Reps.cons'.2 ⟨ofCell_rep v, Reps.ofCells l⟩

theorem ofCell_noOwn (v : Value) : NoOwn (ofCell v) := by
  unfold ofCell
  split
  · exact ⟨(fun _ _ h => by cases h), (fun _ h => by cases h), (fun _ _ h => by cases h)⟩
  · exact NoOwn.lit _

theorem ofConst_rep {w g n} (v : Value) : Rep w g n (ofConst v) v := by
  unfold ofConst
  split
  · simp only [Rep]; exact ⟨none, 0, 0, rfl, rfl, Nat.le_refl _, fun _ => rfl, fun _ => rfl, fun _ h => by cases h⟩
  · rename_i cs; simp only [Rep]; exact ⟨cs, rfl, Reps.ofCells _⟩
  · simp [Rep]

def ASt.ev (E : Env) (σ : ASt) : Operand → AV
  | .tmp t => (look σ.tmps t).strip
  | .const v => ofConst v
  | .global i => match E.gl i with | some cs => .cp cs | none => .any
  | .func f => .fn (.func f) [] []

theorem Reps.zero_later {w g n} {as vs} (h : Reps w g 0 as vs) : Reps w g n as vs :=
  Reps.later ⟨Nat.zero_le _, fun _ _ => rfl, fun _ _ _ h h' => ⟨h, h'⟩, fun _ _ h h' => ⟨h, h'⟩⟩ _ _ h

theorem ASt.ev_rep {E B σ a w g} (h : RA E B σ a w g) (x : Operand) : Rep w g σ.heap.length (σ.ev E x) (a.eval x) := by
  cases x with
  | tmp t => exact (h.tmps t).1.strip
  | const v => exact ofConst_rep v
  | func f => simp [ASt.ev, Act.eval, Rep, Reps]
  | global i =>
    simp only [ASt.ev, Act.eval]
    split
    · rename_i cs hcs
      obtain ⟨vs, h1, h2, _⟩ := h.gl i cs hcs
      simp only [Rep]
      exact ⟨i, 0, vs, rfl, h1, h2.zero_later⟩
    · simp [Rep]

theorem ASt.ev_noOwn {E σ} (x : Operand) : NoOwn (ASt.ev E σ x) := by
  cases x with
  | tmp t => exact NoOwn.strip _
  | const v =>
    simp only [ASt.ev, ofConst]
    split
    · exact ⟨(fun _ _ h => by cases h), (fun _ h => by cases h), (fun _ _ h => by cases h)⟩
    · exact NoOwn.agg _
    · exact NoOwn.lit _
  | func f => exact NoOwn.fn _ _ _
  | global i => simp only [ASt.ev]; split <;> exact ⟨(fun _ _ h => by cases h), (fun _ h => by cases h), (fun _ _ h => by cases h)⟩

end Go.Abs

namespace Go.Abs
open Go Go.RowKit

variable {P : Program} {w : World} {g : Gh} {h : List AObj} {ρ : Operand → Value} {ev : Operand → AV} {K : AV → Prop}

theorem loadCells_holds {b off : Nat} {vs : List Value} (hh : ∀ j u, vs[j]? = some u → w.cell? ⟨b, off + j, none⟩ = some u) :
    (loadCells ⟨b, off, none⟩ vs.length).run P w = .ok vs.toArray w :=
  run_loadCells_list w _ vs fun j v hv => by
    have := hh j v hv
    unfold Addr.add
    split
    · rename_i h0; subst h0; simpa using this
    · exact this

theorem cell_of_heap {b off : Nat} {vs : Array Value} {e : TypeId} {fr} (hb : w.heap[b]? = some (.cells vs e fr)) : w.cell? ⟨b, off, none⟩ = vs[off]? := by
  simp [World.cell?, hb]

/-- A load of one cell. -/
theorem load_none {t : TypeId} {x : Value} {b off : Nat} {u : Value} (hn : aggN P t = some none) (hx : x = .pointer (some ⟨b, off, none⟩))
    (hc : w.cell? ⟨b, off, none⟩ = some u) : (Instr.loadAt t x).run P w = .ok u w := by
  subst hx
  simp [Instr.loadAt, Instr.sureAddr, loadVar, (aggN_spec hn w).1, hc]

theorem load_some {t : TypeId} {x : Value} {b off k : Nat} {vs : List Value} (hn : aggN P t = some (some k)) (hx : x = .pointer (some ⟨b, off, none⟩)) (hk : vs.length = k)
    (hc : ∀ j u, vs[j]? = some u → w.cell? ⟨b, off + j, none⟩ = some u) : (Instr.loadAt t x).run P w = .ok (.agg vs.toArray) w := by
  subst hx
  obtain ⟨h1, i, hi, h2⟩ := aggN_spec hn w
  have := loadCells_holds (P := P) hc
  simp [Instr.loadAt, Instr.sureAddr, loadVar, h1, run_siz hi, h2 k rfl, ← hk, this]

theorem addr_add (b off k : Nat) : (⟨b, off, none⟩ : Addr).add k = ⟨b, off + k, none⟩ := by
  unfold Addr.add
  split
  · rename_i h; subst h; rfl
  · rfl

theorem asIntOf_int (k : IntKind) (n : Int) : (asIntOf (.int k n)).run P w = .ok (k, n) w := rfl

theorem sound_load {n : Option Nat} {t : TypeId} {x : Operand} (hn : aggN P t = some n) (hev : Rep w g h.length (ev x) (ρ x)) (hh : HeapOk w g h)
    (hv : vop h ev (.load n x) K) : VOk P w g h.length (do pure (.value (← Instr.loadAt t (ρ x)))) K := by
  simp only [vop] at hv
  split at hv
  · rename_i id off hx
    rw [hx] at hev
    simp only [Rep] at hev
    obtain ⟨hp, _⟩ := hev
    split at hv
    · rename_i l hl
      obtain ⟨vs, e, hc⟩ := hh id l hl
      cases n with
      | none =>
        simp only at hv
        split at hv
        · rename_i av hav
          obtain ⟨v, h1, h2, h3⟩ := hc.rep _ _ hav
          exact VOk.of (load_none hn hp (by rw [cell_of_heap hc.blk]; exact h1)) h2.strip (NoOwn.strip _) hv
        · exact hv.elim
      | some k =>
        simp only at hv
        obtain ⟨hle, hv⟩ := hv
        have hsz := hc.size
        have hlen : ((vs.toList.drop off).take k).length = k := by simp; omega
        refine VOk.of (load_some (vs := (vs.toList.drop off).take k) hn hp hlen ?_) ?_ (NoOwn.agg _) hv
        · intro j u hj
          rw [cell_of_heap hc.blk]
          rw [List.getElem?_take] at hj
          split at hj
          · rw [List.getElem?_drop] at hj; simpa using hj
          · cases hj
        · simp only [Rep]
          refine ⟨_, rfl, Reps.of_get (by simp; omega) fun i a v ha hvv => ?_⟩
          simp only [List.getElem?_map, List.getElem?_take, List.getElem?_drop] at ha hvv
          split at ha
          · rename_i hik
            rw [if_pos hik] at hvv
            cases hq : l[off + i]? with
            | none => rw [hq] at ha; simp at ha
            | some aa =>
              rw [hq] at ha
              simp at ha
              obtain ⟨v', h1, h2, _⟩ := hc.rep _ _ hq
              have : vs.toList[off + i]? = some v' := by simpa using h1
              rw [this] at hvv
              cases hvv
              rw [← ha]; exact h2.strip
          · simp at ha
    · exact hv.elim
  · rename_i cs hx
    rw [hx] at hev
    simp only [Rep] at hev
    obtain ⟨b, off, vs, hp, hH, hR⟩ := hev
    cases n with
    | none =>
      simp only at hv
      split at hv
      · rename_i av hav
        obtain ⟨v, h1, h2⟩ := hR.get _ _ hav
        exact VOk.of (load_none hn hp (by simpa using (hH 0 v h1).1)) h2.strip (NoOwn.strip _) hv
      · exact hv.elim
    | some k =>
      simp only at hv
      obtain ⟨hle, hv⟩ := hv
      have hl := hR.length
      refine VOk.of (load_some (vs := vs.take k) hn hp (by simp; omega) ?_) ?_ (NoOwn.agg _) hv
      · intro j u hj
        rw [List.getElem?_take] at hj
        split at hj
        · exact (hH j u hj).1
        · cases hj
      · simp only [Rep]; exact ⟨_, rfl, by simpa using hR.take k⟩
  · exact hv.elim

theorem drop_holds {b off : Nat} {vs : List Value} (hH : Holds w g b off vs) (k : Nat) : Holds w g b (off + k) (vs.drop k) := by
  intro j u hj
  rw [List.getElem?_drop] at hj
  have := hH _ u hj
  rwa [← Nat.add_assoc] at this

theorem sound_fieldAddr {s : TypeId} {x : Operand} {fields : Array Field} {f : Nat} {fd : Field} {i : TypeInfo} (hu : P.underlying s = some (.struct fields)) (hf : fields[f]? = some fd)
    (hi : P.info? fd.type = some i) (hz : i.size ≠ 0) (hev : Rep w g h.length (ev x) (ρ x)) (hv : vop h ev (.fieldAddr fd.offset x) K) :
    VOk P w g h.length (do pure (.value (← Instr.fieldAt s (ρ x) f))) K := by
  have key : ∀ b off, (Instr.fieldAt s (.pointer (some ⟨b, off, none⟩)) f).run P w = .ok (.pointer (some ⟨b, off + fd.offset, none⟩)) w := by
    intro b off
    simp only [Instr.fieldAt, Sem.run_bind, run_und hu, Result.andThen_ok, hf, Instr.sureAddr, Sem.run_pure, fieldPlace, run_siz hi, if_neg hz, addr_add]
  simp only [vop] at hv
  split at hv
  · rename_i id off hx
    rw [hx] at hev
    simp only [Rep] at hev
    obtain ⟨hp, hlt⟩ := hev
    rw [hp]
    exact VOk.of (key _ _) (by simp only [Rep]; exact ⟨trivial, hlt⟩) (NoOwn.ref _ _) hv
  · rename_i cs hx
    rw [hx] at hev
    simp only [Rep] at hev
    obtain ⟨b, off, vs, hp, hH, hR⟩ := hev
    rw [hp]
    exact VOk.of (key _ _) (by simp only [Rep]; exact ⟨b, _, _, rfl, drop_holds hH _, hR.drop _⟩) (NoOwn.cp _) hv
  · exact hv.elim

/-- A part of an aggregate. -/
theorem part_none {t : TypeId} {cs : Array Value} {off : Nat} {v : Value} (hn : aggN P t = some none) (hc : cs[off]? = some v) : (part t cs off).run P w = .ok v w := by
  simp [part, (aggN_spec hn w).1, hc]
theorem part_some {t : TypeId} {cs : Array Value} {off k : Nat} (hn : aggN P t = some (some k)) : (part t cs off).run P w = .ok (.agg (cs.extract off (off + k))) w := by
  obtain ⟨h1, i, hi, h2⟩ := aggN_spec hn w
  simp [part, h1, run_siz hi, h2 k rfl]

theorem extract_toList (cs : Array Value) (off k : Nat) : (cs.extract off (off + k)).toList = (cs.toList.drop off).take k := by
  rw [Array.toList_extract, List.extract_eq_take_drop]; congr 1; omega

theorem sound_field {s : TypeId} {x : Operand} {fields : Array Field} {f : Nat} {fd : Field} {n : Option Nat} (hu : P.underlying s = some (.struct fields)) (hf : fields[f]? = some fd)
    (hn : aggN P fd.type = some n) (hev : Rep w g h.length (ev x) (ρ x)) (hv : vop h ev (.field fd.offset n x) K) :
    VOk P w g h.length (do pure (.value (← Instr.field s (ρ x) f))) K := by
  simp only [vop] at hv
  split at hv
  · rename_i cs hx
    rw [hx] at hev
    simp only [Rep] at hev
    obtain ⟨vs, hp, hR⟩ := hev
    rw [hp]
    cases n with
    | none =>
      simp only at hv
      split at hv
      · rename_i av hav
        obtain ⟨v, h1, h2⟩ := hR.get _ _ hav
        refine VOk.of (v := v) ?_ h2.strip (NoOwn.strip _) hv
        simp only [Instr.field, Sem.run_bind, run_und hu, Result.andThen_ok, hf, asAgg, Sem.run_pure]
        exact part_none hn (by simpa using h1)
      · exact hv.elim
    | some k =>
      simp only at hv
      refine VOk.of (v := .agg (vs.extract fd.offset (fd.offset + k))) ?_ ?_ (NoOwn.agg _) hv
      · simp only [Instr.field, Sem.run_bind, run_und hu, Result.andThen_ok, hf, asAgg, Sem.run_pure]
        exact part_some hn
      · simp only [Rep]; exact ⟨_, rfl, by rw [extract_toList]; exact (hR.drop _).take _⟩
  · exact hv.elim

theorem sound_indexAddr {t e : TypeId} {x ix : Operand} {inf : TypeInfo} (hu : P.underlying t = some (.slice e)) (hi : P.info? e = some inf)
    (hev : ∀ x, Rep w g h.length (ev x) (ρ x)) (hv : vop h ev (.indexAddr inf.size x ix) K) :
    VOk P w g h.length (do pure (.value (← Instr.indexAt t (ρ x) (ρ ix)))) K := by
  have key : ∀ (b off len cap : Nat) (k : IntKind) (j : Int), 0 ≤ j → j < len → (Instr.indexAt t (.slice (some ⟨b, off, none⟩) len cap) (.int k j)).run P w = .ok (.pointer (some ⟨b, off + j.toNat * inf.size, none⟩)) w := by
    intro b off len cap k j h0 h1
    simp only [Instr.indexAt, Sem.run_bind, asIntOf_int, Result.andThen_ok, run_und hu, Sem.run_pure]
    rw [if_pos ⟨h0, h1⟩]
    simp [run_siz hi, addr_add]
  have hx := hev x
  have hy := hev ix
  simp only [vop] at hv
  split at hv
  · rename_i c es k j e1 e2
    rw [e1] at hx
    rw [e2] at hy
    simp only [Rep] at hx hy
    obtain ⟨base, len, cap, hp, hlen, hcap, _, hnone, hsome⟩ := hx
    obtain ⟨⟨h0, h1⟩, hv⟩ := hv
    have hlt : j.toNat < es.length := by omega
    obtain ⟨hs, hk, hv⟩ := hv es[j.toNat] (by simp [hlt])
    cases base with
    | none => exfalso; have := hnone rfl; omega
    | some a =>
      obtain ⟨hspot, k', hels⟩ := hsome a rfl
      obtain ⟨v, hr, hsz, hH⟩ := hels.get j.toNat es[j.toNat] (by simp [hlt])
      have hk' : k' = inf.size := by
        have := (hr.cells hs).length
        simp at this; omega
      subst hk'
      obtain ⟨b, off, spot⟩ := a
      simp only at hspot hH
      have hspot := hspot (by omega)
      subst hspot
      rw [hp, hy]
      refine VOk.of (key b off len cap k j h0 (by omega)) ?_ (NoOwn.cp _) hv
      simp only [Rep]
      exact ⟨b, _, _, rfl, hH, hr.cells hs⟩
  · rename_i id off len cap k j e1 e2
    rw [e1] at hx
    rw [e2] at hy
    simp only [Rep] at hx hy
    obtain ⟨hp, hlt, _⟩ := hx
    obtain ⟨⟨h0, h1⟩, hv⟩ := hv
    rw [hp, hy]
    exact VOk.of (key _ _ _ _ _ _ h0 h1) (by simp only [Rep]; exact ⟨trivial, hlt⟩) (NoOwn.ref _ _) hv
  · exact hv.elim

theorem sound_indexAddrArr {t e : TypeId} {len : Nat} {x ix : Operand} {inf : TypeInfo} (hu : P.underlying t = some (.array len e)) (hi : P.info? e = some inf)
    (hev : ∀ x, Rep w g h.length (ev x) (ρ x)) (hv : vop h ev (.indexAddrArr len inf.size x ix) K) :
    VOk P w g h.length (do pure (.value (← Instr.indexAt t (ρ x) (ρ ix)))) K := by
  have key : ∀ (b off : Nat) (k : IntKind) (j : Int), 0 ≤ j → j < len → (Instr.indexAt t (.pointer (some ⟨b, off, none⟩)) (.int k j)).run P w = .ok (.pointer (some ⟨b, off + j.toNat * inf.size, none⟩)) w := by
    intro b off k j h0 h1
    simp only [Instr.indexAt, Sem.run_bind, asIntOf_int, Result.andThen_ok, run_und hu, Sem.run_pure, Instr.sureAddr]
    rw [if_pos ⟨h0, h1⟩]
    simp [run_siz hi, addr_add]
  have hx := hev x
  have hy := hev ix
  simp only [vop] at hv
  split at hv
  · rename_i id o k j e1 e2
    rw [e1] at hx
    rw [e2] at hy
    simp only [Rep] at hx hy
    obtain ⟨hp, hlt⟩ := hx
    obtain ⟨⟨h0, h1⟩, hv⟩ := hv
    rw [hp, hy]
    exact VOk.of (key _ _ _ _ h0 h1) (by simp only [Rep]; exact ⟨trivial, hlt⟩) (NoOwn.ref _ _) hv
  · rename_i cs k j e1 e2
    rw [e1] at hx
    rw [e2] at hy
    simp only [Rep] at hx hy
    obtain ⟨b, off, vs, hp, hH, hR⟩ := hx
    obtain ⟨⟨h0, h1⟩, hv⟩ := hv
    rw [hp, hy]
    exact VOk.of (key _ _ _ _ h0 h1) (by simp only [Rep]; exact ⟨b, _, _, rfl, drop_holds hH _, hR.drop _⟩) (NoOwn.cp _) hv
  · exact hv.elim

theorem sound_indexS {t : TypeId} {x ix : Operand} (hu : P.underlying t = some .string)
    (hev : ∀ x, Rep w g h.length (ev x) (ρ x)) (hv : vop h ev (.indexS x ix) K) :
    VOk P w g h.length (do pure (.value (← Instr.index t (ρ x) (ρ ix)))) K := by
  have hx := hev x
  have hy := hev ix
  simp only [vop] at hv
  split at hv
  · rename_i s k j e1 e2
    rw [e1, Rep.lit_iff] at hx
    rw [e2, Rep.lit_iff] at hy
    obtain ⟨⟨h0, h1⟩, hv⟩ := hv
    have hlt : j.toNat < s.size := by omega
    have hs : s[j.toNat]? = some s[j.toNat] := by simp [hlt]
    have hv' := hv _ hs
    rw [hx, hy]
    refine VOk.of ?_ (Rep.lit_iff.2 rfl) (NoOwn.lit _) hv'
    simp [Instr.index, asIntOf_int, run_und hu, h0, hs]
  · exact hv.elim

theorem sound_indexArr {t e : TypeId} {len : Nat} {n : Option Nat} {x ix : Operand} {inf : TypeInfo} (hu : P.underlying t = some (.array len e)) (hi : P.info? e = some inf) (hn : aggN P e = some n)
    (hev : ∀ x, Rep w g h.length (ev x) (ρ x)) (hv : vop h ev (.indexArr len inf.size n x ix) K) :
    VOk P w g h.length (do pure (.value (← Instr.index t (ρ x) (ρ ix)))) K := by
  have hx := hev x
  have hy := hev ix
  simp only [vop] at hv
  split at hv
  · rename_i cs k j e1 e2
    rw [e1] at hx
    rw [e2, Rep.lit_iff] at hy
    simp only [Rep] at hx
    obtain ⟨vs, hp, hR⟩ := hx
    obtain ⟨⟨h0, h1⟩, hv, hle, hk0⟩ := hv
    rw [hp, hy]
    have hrun : ∀ v, (part e vs (j.toNat * inf.size)).run P w = .ok v w → (Instr.index t (.agg vs) (.int k j)).run P w = .ok v w := by
      intro v hpv
      simp only [Instr.index, Sem.run_bind, asIntOf_int, Result.andThen_ok, run_und hu]
      rw [if_pos ⟨h0, h1⟩]
      simp [run_siz hi, hpv]
    cases n with
    | none =>
      simp only at hv
      have hlt : j.toNat * inf.size < cs.length := by
        have : j.toNat < len := by omega
        calc j.toNat * inf.size < len * inf.size := Nat.mul_lt_mul_of_pos_right this hk0
          _ ≤ cs.length := hle
      obtain ⟨v, h3, h4⟩ := hR.get (j.toNat * inf.size) cs[j.toNat * inf.size] (by simp [hlt])
      exact VOk.of (hrun v (part_none hn (by simpa using h3))) h4.strip (NoOwn.strip _) (hv _ (by simp [hlt]))
    | some m =>
      simp only at hv
      refine VOk.of (hrun _ (part_some hn)) ?_ (NoOwn.agg _) hv
      simp only [Rep]; exact ⟨_, rfl, by rw [extract_toList]; exact (hR.drop _).take _⟩
  · exact hv.elim

def intsOf : List AV → Option (List Int)
  | [] => some []
  | .lit (.int .u8 n) :: l => (intsOf l).map (n :: ·)
  | _ => none

theorem bites_ints : ∀ (es : List AV) (l : List UInt8), bitesOf es = some l → ∃ ns, intsOf es = some ns ∧ l = ns.map fun n => UInt8.ofNat n.toNat := by
  intro es
  induction es with
  | nil => intro l hl; simp [bitesOf] at hl; exact ⟨[], rfl, by simp [hl]⟩
  | cons e es ih =>
    intro l hl
    unfold bitesOf at hl
    split at hl
    · simp at *
    · rename_i n l' heq
      cases heq
      simp at hl
      obtain ⟨l'', hl'', rfl⟩ := hl
      obtain ⟨ns, h1, rfl⟩ := ih _ hl''
      exact ⟨n :: ns, by simp [intsOf, h1], by simp⟩
    · cases hl

theorem ints_get : ∀ (es : List AV) (ns : List Int), intsOf es = some ns → ns.length = es.length ∧ ∀ (i : Nat) (n : Int), ns[i]? = some n → es[i]? = some (.lit (.int .u8 n)) := by
  intro es
  induction es with
  | nil => intro ns hl; simp [intsOf] at hl; subst hl; simp
  | cons e es ih =>
    intro ns hl
    unfold intsOf at hl
    split at hl
    · simp at *
    · rename_i n l' heq
      cases heq
      simp at hl
      obtain ⟨ns', hl'', rfl⟩ := hl
      obtain ⟨h1, h2⟩ := ih _ hl''
      refine ⟨by simp [h1], fun i m hm => ?_⟩
      cases i with
      | zero => simp at hm; subst hm; simp
      | succ i => simp at hm ⊢; exact h2 i m hm
    · cases hl

theorem bites_load {es : List AV} {ns : List Int} {b off k : Nat} (hn : intsOf es = some ns) (he : Els w g h.length es b off k) :
    (loadCells ⟨b, off, none⟩ es.length).run P w = .ok (ns.map (Value.int .u8)).toArray w := by
  obtain ⟨h1, h2⟩ := ints_get es ns hn
  have := loadCells_holds (P := P) (w := w) (b := b) (off := off) (vs := ns.map (Value.int .u8)) ?_
  · simpa [h1] using this
  · intro j u hj
    simp at hj
    obtain ⟨n, hn', rfl⟩ := hj
    obtain ⟨v, h3, h4, h5⟩ := he.get j _ (h2 j n hn')
    rw [Rep.lit_iff] at h3
    subst h3
    simp [Value.cells] at h4
    subst h4
    have := (h5 0 (.int .u8 n) (by simp [Value.cells])).1
    simpa using this

theorem foldl_push (l : List UInt8) : ∀ (s : ByteArray), l.foldl (fun r c => r.push c) s = ⟨s.data ++ l.toArray⟩ := by
  induction l with
  | nil => intro s; simp
  | cons c l ih =>
    intro s
    simp only [List.foldl_cons, ih]
    congr 1
    simp [ByteArray.push]

theorem sound_toStr {src dst e : TypeId} {x : Operand} (h1 : P.underlying src = some (.slice e)) (h2 : P.underlying dst = some .string) (h3 : P.underlying e = some (.int .u8))
    (hev : Rep w g h.length (ev x) (ρ x)) (hv : vop h ev (.toStr x) K) : VOk P w g h.length (do pure (.value (← convert src dst (ρ x)))) K := by
  simp only [vop] at hv
  split at hv
  · rename_i c es e1
    split at hv
    · rename_i l hl
      rw [e1] at hev
      simp only [Rep] at hev
      obtain ⟨base, len, cap, hp, hlen, hcap, _, hnone, hsome⟩ := hev
      rw [hp]
      obtain ⟨ns, hns, rfl⟩ := bites_ints es l hl
      cases base with
      | none =>
        have hes : es = [] := by have := hnone rfl; exact List.length_eq_zero_iff.1 (by omega)
        subst hes
        simp [intsOf] at hns
        subst hns
        refine VOk.of ?_ (Rep.lit_iff.2 rfl) (NoOwn.lit _) hv
        simp only [convert, Sem.run_bind, run_und h1, run_und h2, run_und h3, Result.andThen_ok, Conv.bytesToString, Sem.run_pure]
        rfl
      | some a =>
        obtain ⟨hspot, k, hels⟩ := hsome a rfl
        obtain ⟨b, off, spot⟩ := a
        simp only at hspot hels
        refine VOk.of ?_ (Rep.lit_iff.2 rfl) (NoOwn.lit _) hv
        have hl : (loadCells ⟨b, off, spot⟩ es.length).run P w = .ok (ns.map (Value.int .u8)).toArray w := by
          cases es with
          | nil => simp [intsOf] at hns; subst hns; rfl
          | cons x es' =>
            have hspot := hspot (by simp at hlen; omega)
            subst hspot
            exact bites_load (P := P) hns hels
        rw [run_convert_bytes_string w src dst e _ _ _ h1 h3 h2]
        rw [run_bytesToString w _ len cap ns (by rw [← hlen]; exact hl)]
        have := foldl_push (ns.map fun n => UInt8.ofNat n.toNat) ByteArray.empty
        rw [List.foldl_map] at this
        rw [this]
        congr 3
        simp
    · exact hv.elim
  · exact hv.elim

theorem sound_conv {src dst : TypeId} {k k' : IntKind} {x : Operand} (h1 : P.underlying src = some (.int k')) (h2 : P.underlying dst = some (.int k))
    (hev : Rep w g h.length (ev x) (ρ x)) (hv : vop h ev (.conv k x) K) : VOk P w g h.length (do pure (.value (← convert src dst (ρ x)))) K := by
  simp only [vop] at hv
  split at hv
  · rename_i k2 n e1
    rw [e1, Rep.lit_iff] at hev
    rw [hev]
    exact VOk.of (by simp [convert, run_und h1, run_und h2, Conv.intToInt]) (Rep.lit_iff.2 rfl) (NoOwn.lit _) hv
  · exact hv.elim

theorem sound_convS {src dst : TypeId} {x : Operand} (h1 : P.underlying src = some .string) (h2 : P.underlying dst = some .string)
    (hev : Rep w g h.length (ev x) (ρ x)) (hv : vop h ev (.convS x) K) : VOk P w g h.length (do pure (.value (← convert src dst (ρ x)))) K := by
  simp only [vop] at hv
  split at hv
  · rename_i s e1
    rw [e1, Rep.lit_iff] at hev
    rw [hev]
    exact VOk.of (by simp [convert, run_und h1, run_und h2]) (Rep.lit_iff.2 rfl) (NoOwn.lit _) hv
  · exact hv.elim

theorem sound_bin {op : BinOp} {t ty : TypeId} {x y : Operand} {pos} {after} {guard} {dst} {type}
    (hev : ∀ x, Rep w g h.length (ev x) (ρ x)) (hv : vop h ev (.bin op x y) K) :
    VOk P w g h.length (execOp ρ { dst, op := .binOp op t x y ty, type, pos, after, guard }) K := by
  have hx := hev x
  have hy := hev y
  simp only [vop] at hv
  split at hv
  · rename_i u v e1 e2
    rw [e1, Rep.lit_iff] at hx
    rw [e2, Rep.lit_iff] at hy
    obtain ⟨r, h1, h2, h3⟩ := binW_sound (P := P) (w := w) (t := t) hv
    refine ⟨r, .lit r, ?_, Rep.lit_iff.2 rfl, NoOwn.lit _, h2⟩
    simp [execOp, hx, hy, h1, h3]
  · exact hv.elim

theorem sound_un {op : UnOp} {x : Operand} (hev : ∀ x, Rep w g h.length (ev x) (ρ x)) (hv : vop h ev (.un op x) K) :
    VOk P w g h.length (do pure (.value (← Op.unary op (ρ x)))) K := by
  have hx := hev x
  simp only [vop] at hv
  split at hv
  · rename_i b e1; rw [e1, Rep.lit_iff] at hx; rw [hx]
    exact VOk.of (by simp [Op.unary]) (Rep.lit_iff.2 rfl) (NoOwn.lit _) hv
  · rename_i k n e1; rw [e1, Rep.lit_iff] at hx; rw [hx]
    exact VOk.of (by simp [Op.unary, Op.intArith]) (Rep.lit_iff.2 rfl) (NoOwn.lit _) hv
  · rename_i k n e1; rw [e1, Rep.lit_iff] at hx; rw [hx]
    exact VOk.of (by simp [Op.unary, ibits_run]) (Rep.lit_iff.2 rfl) (NoOwn.lit _) hv
  · exact hv.elim

end Go.Abs

namespace Go.Abs
open Go Go.RowKit

variable {P : Program} {w : World} {g : Gh} {h : List AObj} {ρ : Operand → Value} {ev : Operand → AV} {K : AV → Prop}

theorem Els.slice {n : Nat} {es : List AV} {b off k : Nat} (he : Els w g n es b off k) (l u : Nat) : Els w g n ((es.take u).drop l) b (off + l * k) k :=
  Els.of_get fun i e hi => by
    rw [List.getElem?_drop, List.getElem?_take] at hi
    split at hi
    · obtain ⟨v, h1, h2, h3⟩ := he.get _ e hi
      exact ⟨v, h1, h2, by rw [Nat.add_mul, ← Nat.add_assoc] at h3; exact h3⟩
    · cases hi

theorem bounds_run {b : Bool} {len cap : Nat} {lo hi : Option Value} {l u : Int} (hl : (lo = none ∧ l = 0) ∨ ∃ k, lo = some (.int k l)) (hu : (hi = none ∧ u = len) ∨ ∃ k, hi = some (.int k u))
    (h0 : 0 ≤ l) (h1 : l ≤ u) (h2 : u ≤ len) (h3 : len ≤ cap) : (Instr.sliceBounds b len cap lo hi none).run P w = .ok (l.toNat, u.toNat, cap) w := by
  have e1 : ∀ (k : IntKind) code, (Instr.sliceBound (.int k u) cap code).run P w = .ok u.toNat w := fun k code => run_sliceBound w k u cap code (by omega) (by omega)
  have e2 : ∀ (k : IntKind) code, (Instr.sliceBound (.int k l) u.toNat code).run P w = .ok l.toNat w := fun k code => run_sliceBound w k l u.toNat code (by omega) (by omega)
  rcases hl with ⟨rfl, rfl⟩ | ⟨k, rfl⟩ <;> rcases hu with ⟨rfl, rfl⟩ | ⟨k', rfl⟩ <;>
    simp_all [Instr.sliceBounds]

theorem opt_bound {lo : Option Operand} {l : Int} {dflt : Int} (hev : ∀ x, Rep w g h.length (ev x) (ρ x))
    (hl : match lo with | none => l = dflt | some y => ∃ k, ev y = .lit (.int k l)) : (lo.map ρ = none ∧ l = dflt) ∨ ∃ k, lo.map ρ = some (.int k l) := by
  cases lo with
  | none => exact .inl ⟨rfl, hl⟩
  | some o =>
    obtain ⟨k, hk⟩ := hl
    have := hev o
    rw [hk, Rep.lit_iff] at this
    exact .inr ⟨k, by simp [this]⟩

theorem sound_slice {t e : TypeId} {inf : TypeInfo} {x : Operand} {lo hi : Option Operand} (hu : P.underlying t = some (.slice e)) (hi' : P.info? e = some inf)
    (hev : ∀ x, Rep w g h.length (ev x) (ρ x)) (hv : vop h ev (.slice inf.size x lo hi) K) :
    VOk P w g h.length (do pure (.value (← Instr.sliceAt t (ρ x) (lo.map ρ) (hi.map ρ) none))) K := by
  have hx := hev x
  simp only [vop] at hv
  split at hv
  · rename_i c es e1
    obtain ⟨l, u, hl, hu', h0, h1, h2, hsz, hv⟩ := hv
    rw [e1] at hx
    simp only [Rep] at hx
    obtain ⟨base, len, cap, hp, hlen, hcap, _, hnone, hsome⟩ := hx
    rw [hp]
    have hb : (Instr.sliceBounds true len cap (lo.map ρ) (hi.map ρ) none).run P w = .ok (l.toNat, u.toNat, cap) w :=
      bounds_run (opt_bound hev hl) (opt_bound (dflt := len) hev (by rw [← hlen]; exact hu')) h0 h1 (by omega) hcap
    refine VOk.of (v := .slice (if cap = l.toNat then base else base.map (·.add (l.toNat * inf.size))) (u.toNat - l.toNat) (cap - l.toNat)) ?_ ?_ (NoOwn.unk _) hv
    · simp only [Instr.sliceAt, Sem.run_bind, run_und hu, Result.andThen_ok, Instr.slice, hb, run_siz hi', Sem.run_pure]
    · simp only [Rep]
      refine ⟨_, _, _, rfl, by simp; omega, by omega, (fun hh => by cases hh), ?_, ?_⟩
      · intro hb0
        split at hb0
        · have := hnone hb0; omega
        · cases base with
          | none => have := hnone rfl; omega
          | some a => simp at hb0
      · intro a ha
        split at ha
        · rename_i hcl
          subst ha
          obtain ⟨h3, _⟩ := hsome a rfl
          refine ⟨fun h => h3 (by omega), 0, ?_⟩
          have : (es.take u.toNat).drop l.toNat = [] := by
            apply List.drop_eq_nil_of_le
            simp; omega
          rw [this]; simp [Els]
        · cases base with
          | none => simp at ha
          | some a0 =>
            obtain ⟨h3, k, h4⟩ := hsome a0 rfl
            obtain ⟨b, off, spot⟩ := a0
            simp only at h3 h4
            have h3 := h3 (by omega)
            subst h3
            simp [addr_add] at ha
            subst ha
            refine ⟨fun _ => rfl, k, ?_⟩
            rcases hsz with rfl | hsz
            · simpa using h4.slice 0 u.toNat
            · cases es with
              | nil => simp [Els]
              | cons e0 es0 =>
                have hk : k = inf.size := by
                  obtain ⟨v, h5, h6, _⟩ := h4.get 0 e0 (by simp)
                  obtain ⟨h7, h8⟩ := hsz e0 (by simp)
                  have := (h5.cells h7).length
                  simp at this; omega
                subst hk
                exact h4.slice l.toNat u.toNat
  · exact hv.elim

theorem sound_sliceS {t : TypeId} {x : Operand} {lo hi : Option Operand} (hu : P.underlying t = some .string)
    (hev : ∀ x, Rep w g h.length (ev x) (ρ x)) (hv : vop h ev (.sliceS x lo hi) K) :
    VOk P w g h.length (do pure (.value (← Instr.sliceAt t (ρ x) (lo.map ρ) (hi.map ρ) none))) K := by
  have hx := hev x
  simp only [vop] at hv
  split at hv
  · rename_i s e1
    obtain ⟨l, u, hl, hu', h0, h1, h2, hv⟩ := hv
    rw [e1, Rep.lit_iff] at hx
    rw [hx]
    have hb : (Instr.sliceBounds false s.size s.size (lo.map ρ) (hi.map ρ) none).run P w = .ok (l.toNat, u.toNat, s.size) w :=
      bounds_run (opt_bound hev hl) (opt_bound (dflt := s.size) hev hu') h0 h1 h2 (Nat.le_refl _)
    refine VOk.of ?_ (Rep.lit_iff.2 rfl) (NoOwn.lit _) hv
    simp [Instr.sliceAt, run_und hu, Instr.slice, hb]
  · exact hv.elim

theorem sound_eqB {t : TypeId} (ht : isBool P t = true) {neg : Bool} {x y : Operand} {pos} {after} {guard} {dst} {type} {ty} {op : BinOp} (hop : op = if neg then .neq else .eql)
    (hev : ∀ x, Rep w g h.length (ev x) (ρ x)) (hv : vop h ev (.eqB neg x y) K) :
    VOk P w g h.length (execOp ρ { dst, op := .binOp op t x y ty, type, pos, after, guard }) K := by
  have hx := hev x
  have hy := hev y
  simp only [vop] at hv
  split at hv
  · rename_i a b e1 e2
    rw [e1, Rep.lit_iff] at hx
    rw [e2, Rep.lit_iff] at hy
    refine ⟨_, _, ?_, Rep.lit_iff.2 rfl, NoOwn.lit _, hv⟩
    cases neg <;> simp only [Bool.false_eq_true, if_false, if_true] at hop <;> subst hop <;> simp [execOp, hx, hy, eqGuard, binOp, wp_eqB ht]
  · exact hv.elim

theorem sound_eqN {t : TypeId} {kind : Nat} {neg : Bool} {x y : Operand} (ht : nilKind P t (isCon x || isCon y) = some kind) {pos} {after} {guard} {dst} {type} {ty} {op : BinOp} (hop : op = if neg then .neq else .eql)
    (hev : ∀ x, Rep w g h.length (ev x) (ρ x)) (hv : vop h ev (.eqN neg kind x y) K) :
    VOk P w g h.length (execOp ρ { dst, op := .binOp op t x y ty, type, pos, after, guard }) K := by
  have main : ∀ a b, nilness kind (ev x) = some a → nilness kind (ev y) = some b → (a = true ∨ b = true) → K (.lit (.bool (xor neg (a && b)))) →
      VOk P w g h.length (execOp ρ { dst, op := .binOp op t x y ty, type, pos, after, guard }) K := by
    intro a b ha hb hab hk
    obtain ⟨h1, h2, h3⟩ := eqN_sound (P := P) ht ha hb hab (hev x) (hev y)
    have hg : (eqGuard op t x y (ρ x) (ρ y)).run P w = .ok () w := by
      unfold eqGuard
      cases neg <;> simp only [Bool.false_eq_true, if_false, if_true] at hop <;> subst hop <;> simp only [Bool.not_true, Bool.false_eq_true, if_false]
      all_goals
        split
        · rename_i hu hv'
          have hc := h2 hu hv'
          rw [if_pos]
          · rfl
          · unfold isCon at hc
            cases x <;> cases y <;> simp_all
        · rename_i hu hv'; exact absurd hu (h3 _)
        · rfl
    have hbo : (binOp op t (ρ x) (ρ y)).run P w = .ok (.bool (xor neg (a && b))) w := by
      have hne : ∀ k n, ρ x ≠ .int k n := by
        intro k n hh
        have hr := hev x
        rw [hh] at hr
        unfold nilKind at ht
        split at ht <;> simp at ht
        · subst ht; rcases nil0 ha hr with ⟨_, h⟩ | ⟨_, _, h⟩ <;> cases h
        · subst ht; rcases nil1 ha hr with ⟨_, h⟩ | ⟨_, _, _, _, h⟩ <;> cases h
        · obtain ⟨_, rfl⟩ := ht; rcases nil2 ha hr with ⟨_, h⟩ | ⟨_, _, _, h⟩ <;> cases h
        · subst ht; obtain ⟨_, h⟩ := nil3 ha hr; cases h
      have hns : ∀ s, ρ x ≠ .string s := by
        intro s hh
        have hr := hev x
        rw [hh] at hr
        unfold nilKind at ht
        split at ht <;> simp at ht
        · subst ht; rcases nil0 ha hr with ⟨_, h⟩ | ⟨_, _, h⟩ <;> cases h
        · subst ht; rcases nil1 ha hr with ⟨_, h⟩ | ⟨_, _, _, _, h⟩ <;> cases h
        · obtain ⟨_, rfl⟩ := ht; rcases nil2 ha hr with ⟨_, h⟩ | ⟨_, _, _, h⟩ <;> cases h
        · subst ht; obtain ⟨_, h⟩ := nil3 ha hr; cases h
      have hnf : ∀ k n, ρ x ≠ .float k n := by
        intro s n hh
        have hr := hev x
        rw [hh] at hr
        unfold nilKind at ht
        split at ht <;> simp at ht
        · subst ht; rcases nil0 ha hr with ⟨_, h⟩ | ⟨_, _, h⟩ <;> cases h
        · subst ht; rcases nil1 ha hr with ⟨_, h⟩ | ⟨_, _, _, _, h⟩ <;> cases h
        · obtain ⟨_, rfl⟩ := ht; rcases nil2 ha hr with ⟨_, h⟩ | ⟨_, _, _, h⟩ <;> cases h
        · subst ht; obtain ⟨_, h⟩ := nil3 ha hr; cases h
      have hnc : ∀ k n m, ρ x ≠ .complex k n m := by
        intro s n m hh
        have hr := hev x
        rw [hh] at hr
        unfold nilKind at ht
        split at ht <;> simp at ht
        · subst ht; rcases nil0 ha hr with ⟨_, h⟩ | ⟨_, _, h⟩ <;> cases h
        · subst ht; rcases nil1 ha hr with ⟨_, h⟩ | ⟨_, _, _, _, h⟩ <;> cases h
        · obtain ⟨_, rfl⟩ := ht; rcases nil2 ha hr with ⟨_, h⟩ | ⟨_, _, _, h⟩ <;> cases h
        · subst ht; obtain ⟨_, h⟩ := nil3 ha hr; cases h
      revert h1 hne hns hnf hnc
      generalize ρ x = u
      generalize ρ y = v
      intro h1 hne hns hnf hnc
      cases neg <;> simp only [Bool.false_eq_true, if_false, if_true] at hop <;> subst hop
      all_goals
        unfold binOp
        cases u <;> simp_all
    exact ⟨_, _, by simp [execOp, hg, hbo], Rep.lit_iff.2 rfl, NoOwn.lit _, hk⟩
  simp only [vop] at hv
  split at hv
  · rename_i b e1 e2
    exact main true b e1 e2 (.inl rfl) (by simpa using hv)
  · rename_i e1 e2
    exact main false true e1 e2 (.inr rfl) (by simpa using hv)
  · exact hv.elim

theorem eqKind_spec {t : TypeId} {k : Nat} (hk : eqKind P t = some k) : aggN P t = some none ∧ ((k = 0 ∧ P.underlying t = some .bool) ∨ (k = 1 ∧ ∃ q, P.underlying t = some (.int q)) ∨ (k = 2 ∧ P.underlying t = some .string)) := by
  unfold eqKind at hk
  unfold aggN
  split at hk <;> cases hk
  · rename_i h1 h2; exact ⟨by simp only [h1, h2], .inl ⟨rfl, h1⟩⟩
  · rename_i h1 h2; exact ⟨by simp only [h1, h2], .inr (.inl ⟨rfl, _, h1⟩)⟩
  · rename_i h1 h2; exact ⟨by simp only [h1, h2], .inr (.inr ⟨rfl, h1⟩)⟩

theorem eqFields_run {n : Nat} {xs ys : Array Value} : ∀ (fs : List Field) (i : Nat) (ks : List Nat) (cs ds : List AV) (b : Bool), eqKindsL P i fs = some ks → eqCells ks cs ds = some b →
    Reps w g n cs (xs.toList.drop i) → Reps w g n ds (ys.toList.drop i) → (Op.eqFields 9999 xs ys fs).run P w = .ok b w
  | [], i, ks, cs, ds, b, hk, hc, hx, hy => by
    simp only [eqKindsL, Option.some.injEq] at hk
    subst hk
    cases cs <;> cases ds <;> simp [eqCells] at hc
    subst hc
    simp [Op.eqFields]
  | f :: fs, i, ks, cs, ds, b, hk, hc, hx, hy => by
    simp only [eqKindsL] at hk
    split at hk
    · rename_i hf
      obtain ⟨hf1, hf2⟩ := hf
      split at hk
      · rename_i k ks' h1 h2
        cases hk
        obtain ⟨ha, hty⟩ := eqKind_spec h1
        have step : ∀ (c d : AV) (cs' ds' : List AV) (u v : Value) (e r : Bool), cs = c :: cs' → ds = d :: ds' → (∀ x, Rep w g n c x → x = u) → (∀ x, Rep w g n d x → x = v) →
            (Op.equalIn 9999 f.type u v).run P w = .ok e w → eqCells ks' cs' ds' = some r → b = (e && r) → (Op.eqFields 9999 xs ys (f :: fs)).run P w = .ok b w := by
          intro c d cs' ds' u v e r h3 h4 h5 h6 h7 h8 h9
          subst h3 h4
          obtain ⟨u', ru, e1, e2, e3⟩ := Reps.cons.1 hx
          obtain ⟨v', rv, e4, e5, e6⟩ := Reps.cons.1 hy
          have := h5 _ e2; subst this
          have := h6 _ e5; subst this
          have hxi : xs[i]? = some u' := by
            have := congrArg (·[0]?) e1
            simpa using this
          have hyi : ys[i]? = some v' := by
            have := congrArg (·[0]?) e4
            simpa using this
          have hx' : Reps w g n cs' (xs.toList.drop (i + 1)) := by
            have : xs.toList.drop (i + 1) = ru := by rw [← List.drop_drop (i := 1), e1]; rfl
            rw [this]; exact e3
          have hy' : Reps w g n ds' (ys.toList.drop (i + 1)) := by
            have : ys.toList.drop (i + 1) = rv := by rw [← List.drop_drop (i := 1), e4]; rfl
            rw [this]; exact e6
          have ih := eqFields_run fs (i + 1) ks' cs' ds' r h2 h8 hx' hy'
          subst h9
          rw [← hf2] at hxi hyi
          simp only [Op.eqFields, if_pos hf1, Sem.run_bind, part_none ha hxi, part_none ha hyi, Result.andThen_ok, h7]
          cases e
          · simp
          · simpa using ih
        unfold eqCells at hc
        split at hc
        · exact absurd (by assumption) (List.cons_ne_nil k ks')
        · rename_i ks0 a as a' bs hk'
          split at hc
          · rename_i r hr
            cases hc
            cases hk'
            rcases hty with ⟨_, hty⟩ | ⟨h0, _⟩ | ⟨h0, _⟩
            · exact step _ _ _ _ (.bool a) (.bool a') (decide (a = a')) r rfl rfl (fun x hx => by simpa [Rep] using hx) (fun x hx => by simpa [Rep] using hx) (by rw [run_equalIn_bool' w 9998 _ _ _ hty]; cases a <;> cases a' <;> rfl) hr rfl
            · cases h0
            · cases h0
          · cases hc
        · rename_i ks0 k a as k' a' bs hk'
          split at hc
          · rename_i hkk
            subst hkk
            split at hc
            · rename_i r hr
              cases hc
              cases hk'
              rcases hty with ⟨h0, _⟩ | ⟨_, q, hty⟩ | ⟨h0, _⟩
              · cases h0
              · exact step _ _ _ _ (.int k a) (.int k a') (decide (a = a')) r rfl rfl (fun x hx => by simpa [Rep] using hx) (fun x hx => by simpa [Rep] using hx) (by rw [run_equalIn_int w 9998 _ k q _ _ hty]; rfl) hr rfl
              · cases h0
            · cases hc
          · cases hc
        · rename_i ks0 a as a' bs hk'
          split at hc
          · rename_i r hr
            cases hc
            cases hk'
            rcases hty with ⟨h0, _⟩ | ⟨h0, _⟩ | ⟨_, hty⟩
            · cases h0
            · cases h0
            · exact step _ _ _ _ (.string a) (.string a') (decide (a = a')) r rfl rfl (fun x hx => by simpa [Rep] using hx) (fun x hx => by simpa [Rep] using hx) (by rw [run_equalIn_string w 9998 _ _ _ hty, string_eq]) hr rfl
          · cases hc
        · cases hc
      · cases hk
    · cases hk

theorem sound_eqS {t : TypeId} {ks : List Nat} {neg : Bool} {x y : Operand} (ht : eqKinds P t = some ks) {pos} {after} {guard} {dst} {type} {ty} {op : BinOp} (hop : op = if neg then .neq else .eql)
    (hev : ∀ x, Rep w g h.length (ev x) (ρ x)) (hv : vop h ev (.eqS neg ks x y) K) :
    VOk P w g h.length (execOp ρ { dst, op := .binOp op t x y ty, type, pos, after, guard }) K := by
  have hx := hev x
  have hy := hev y
  simp only [vop] at hv
  split at hv
  · rename_i cs ds e1 e2
    split at hv
    · rename_i b hb
      rw [e1] at hx
      rw [e2] at hy
      simp only [Rep] at hx hy
      obtain ⟨xs, hx1, hx2⟩ := hx
      obtain ⟨ys, hy1, hy2⟩ := hy
      unfold eqKinds at ht
      split at ht
      · rename_i fs hu
        split at ht
        · rename_i hh
          have hfs : P.fieldsOf t = fs := by simp [Program.fieldsOf, hu]
          have hrun := eqFields_run (w := w) (g := g) (n := h.length) (xs := xs) (ys := ys) fs.toList 0 ks cs ds b ht hb (by simpa using hx2) (by simpa using hy2)
          have heq : (Op.equalIn 10000 t (.agg xs) (.agg ys)).run P w = .ok b w := by
            rw [run_equalIn_struct w 9999 t xs ys (by rw [hfs]; exact hu) hh.1, hfs]; exact hrun
          refine ⟨_, _, ?_, Rep.lit_iff.2 rfl, NoOwn.lit _, hv⟩
          cases neg <;> simp only [Bool.false_eq_true, if_false, if_true] at hop <;> subst hop
          · simp [execOp, hx1, hy1, run_eqGuard_agg w .eql t x y xs ys hh.2, run_eql_struct, heq]
          · simp [execOp, hx1, hy1, run_eqGuard_agg w .neq t x y xs ys hh.2, run_neq_struct, heq]
        · cases ht
      · cases ht
    · exact hv.elim
  · exact hv.elim

end Go.Abs

namespace Go.Abs
open Go Go.RowKit

variable {P : Program} {w : World} {g : Gh} {h : List AObj} {ρ : Operand → Value} {ev : Operand → AV} {K : AV → Prop}

theorem setMany_reps {n : Nat} : ∀ (avs : List AV) (vs : List Value) (k off : Nat) (l : List AV) (cells : Array Value), Reps w g n avs vs → Reps w g n l cells.toList →
    Reps w g n (setMany l (off + k) avs) ((vs.zipIdx k).foldl (fun cs (x : Value × Nat) => cs.setIfInBounds (off + x.2) x.1) cells).toList := by
  intro avs
  induction avs with
  | nil => intro vs k off l cells h1 h2; simp [Reps] at h1; subst h1; simpa [setMany] using h2
  | cons a avs ih =>
    intro vs k off l cells h1 h2
    obtain ⟨v, rest, rfl, h3, h4⟩ := Reps.cons.1 h1
    simp only [setMany, List.zipIdx_cons, List.foldl_cons, Nat.add_assoc]
    refine ih rest (k + 1) off _ _ h4 ?_
    rw [Array.toList_setIfInBounds]
    exact h2.set _ h3

theorem setMany_length : ∀ (avs l : List AV) (off : Nat), (setMany l off avs).length = l.length
  | [], l, off => rfl
  | a :: avs, l, off => by simp [setMany, setMany_length avs]

theorem fill_reps {n : Nat} {place : Nat → Option (Nat × Nat)} (hev : ∀ x, Rep w g n (ev x) (ρ x)) : ∀ (parts : List (Nat × Operand)) (ps : List (Nat × Nat × Operand)) (l l' : List AV) (cells : Array Value),
    placed place parts = some ps → Reps w g n l cells.toList → fillA ev l ps = some l' →
    ∃ cells', Instr.fill place cells (parts.map fun x => (x.1, ρ x.2)) = some cells' ∧ Reps w g n l' cells'.toList := by
  intro parts
  induction parts with
  | nil => intro ps l l' cells h1 h2 h3; simp [placed] at h1; subst h1; simp [fillA] at h3; subst h3; exact ⟨cells, rfl, h2⟩
  | cons p parts ih =>
    obtain ⟨i, x⟩ := p
    intro ps l l' cells h1 h2 h3
    simp only [placed] at h1
    split at h1
    · rename_i off m ps' e1 e2
      cases h1
      simp only [fillA] at h3
      split at h3
      · rename_i hc
        obtain ⟨hs, hn, hle⟩ := hc
        have hr := (hev x).cells hs
        have hsz : (ρ x).cells.size = m := by have := hr.length; simp at this; omega
        have hcl : cells.size = l.length := by have := h2.length; simpa using this
        have := setMany_reps _ _ 0 off l cells hr h2
        simp only [List.map_cons, Instr.fill, e1]
        rw [if_neg (by simp [hsz]; omega)]
        have hfold : (ρ x).cells.zipIdx.foldl (fun cs (y : Value × Nat) => cs.setIfInBounds (off + y.2) y.1) cells = ((ρ x).cells.toList.zipIdx 0).foldl (fun cs (y : Value × Nat) => cs.setIfInBounds (off + y.2) y.1) cells := by
          rw [← Array.foldl_toList, Array.toList_zipIdx]
        obtain ⟨cells', h5, h6⟩ := ih ps' _ l' _ e2 (by simpa using this) h3
        refine ⟨cells', ?_, h6⟩
        rw [← h5]
        exact congrArg (fun c => Instr.fill place c _) hfold
      · cases h3
    · cases h1

theorem sound_build {t : TypeId} {parts : Array (Nat × Operand)} {ao : AOp} (hc : cop P (.build t parts) = some ao) (hev : ∀ x, Rep w g h.length (ev x) (ρ x)) (hv : vop h ev ao K) :
    VOk P w g h.length (do pure (.value (← Instr.build t (parts.map fun (i, x) => (i, ρ x))))) K := by
  have fin : ∀ (cs : List AV) (cells' : Array Value), P.built t (parts.map fun (i, x) => (i, ρ x)).toList = some cells' → Reps w g h.length cs cells'.toList → K (.agg cs) →
      VOk P w g h.length (do pure (.value (← Instr.build t (parts.map fun (i, x) => (i, ρ x))))) K := by
    intro cs cells' hb hr hk
    exact VOk.of (run_build w t _ cells' hb) (by simp only [Rep]; exact ⟨_, rfl, hr⟩) (NoOwn.agg _) hk
  simp only [cop] at hc
  split at hc
  · rename_i it n e hi hu
    split at hc
    · rename_i z ie hz hie
      split at hc
      · rename_i l hl
        cases hc
        simp only [vop] at hv
        split at hv
        · rename_i cs hcs
          obtain ⟨cells', h1, h2⟩ := fill_reps (n := h.length) hev _ _ _ _ z.cells hl (Reps.ofCells _) hcs
          exact fin cs cells' (by simp only [Program.built, hi, hu, hz, hie]; simpa using h1) h2 hv
        · exact hv.elim
      · cases hc
    · cases hc
  · rename_i it fields hi hu
    split at hc
    · rename_i z places hz hp
      split at hc
      · rename_i l hl
        cases hc
        simp only [vop] at hv
        split at hv
        · rename_i cs hcs
          obtain ⟨cells', h1, h2⟩ := fill_reps (n := h.length) hev _ _ _ _ z.cells hl (Reps.ofCells _) hcs
          exact fin cs cells' (by simp only [Program.built, hi, hu, hz, hp]; simpa using h1) h2 hv
        · exact hv.elim
      · cases hc
    · cases hc
  · cases hc

theorem sound_move {x : Operand} (hev : ∀ x, Rep w g h.length (ev x) (ρ x)) (hno : ∀ x, NoOwn (ev x)) (hv : vop h ev (.move x) K) : VOk P w g h.length (pure (.value (ρ x))) K :=
  ⟨ρ x, ev x, rfl, hev x, hno x, hv⟩

theorem sound_pick {c a b : Operand} (hev : ∀ x, Rep w g h.length (ev x) (ρ x)) (hno : ∀ x, NoOwn (ev x)) (hv : vop h ev (.pick c a b) K) :
    VOk P w g h.length (do pure (.value (if ← asBool (ρ c) then ρ a else ρ b))) K := by
  have hc := hev c
  simp only [vop] at hv
  split at hv
  · rename_i t e1
    rw [e1, Rep.lit_iff] at hc
    rw [hc]
    cases t
    · exact ⟨ρ b, ev b, rfl, hev b, hno b, hv⟩
    · exact ⟨ρ a, ev a, rfl, hev a, hno a, hv⟩
  · exact hv.elim

theorem sound_nilCheck {x : Operand} {o : Oper} (ho : o.op = .nilCheck x) (hev : ∀ x, Rep w g h.length (ev x) (ρ x)) (hv : vop h ev (.nilCheck x) K) : VOk P w g h.length (execOp ρ o) K := by
  have hc := hev x
  simp only [vop] at hv
  unfold execOp
  simp only [ho]
  split at hv
  · rename_i id off e1
    rw [e1] at hc; have hc' := hc; simp only [Rep] at hc'; rw [hc'.1]; rw [hc'.1] at hc
    exact ⟨_, _, rfl, hc, NoOwn.ref _ _, hv⟩
  · rename_i cs e1
    rw [e1] at hc; have hc' := hc; simp only [Rep] at hc'; obtain ⟨b, off, vs, hp, _⟩ := hc'; rw [hp]; rw [hp] at hc
    exact ⟨_, _, rfl, hc, NoOwn.cp _, hv⟩
  · rename_i f a b e1
    rw [e1] at hc; have hc' := hc; simp only [Rep] at hc'; obtain ⟨fa, ca, hp, _⟩ := hc'; rw [hp]; rw [hp] at hc
    exact ⟨_, _, rfl, hc, NoOwn.fn _ _ _, hv⟩
  · rename_i t v e1
    rw [e1] at hc; have hc' := hc; simp only [Rep] at hc'; obtain ⟨y, hp, _⟩ := hc'; rw [hp]; rw [hp] at hc
    exact ⟨_, _, rfl, hc, NoOwn.ifc _ _, hv⟩
  · exact hv.elim

theorem sound_extract {x : Operand} {i : Nat} (hev : ∀ x, Rep w g h.length (ev x) (ρ x)) (hv : vop h ev (.extract x i) K) :
    VOk P w g h.length (do pure (.value (← Instr.extract (ρ x) i))) K := by
  have hc := hev x
  simp only [vop] at hv
  split at hv
  · rename_i vs e1
    rw [e1] at hc
    simp only [Rep] at hc
    obtain ⟨a, hp, hR⟩ := hc
    rw [hp]
    split at hv
    · rename_i av hav
      obtain ⟨v, h1, h2⟩ := hR.get _ _ hav
      exact VOk.of (by simp [Instr.extract, show a[i]? = some v by simpa using h1]) h2.strip (NoOwn.strip _) hv
    · exact hv.elim
  · exact hv.elim

theorem sound_mkIface {t : TypeId} {d : TypeDesc} {x : Operand} (hu : P.underlying t = some d) (hd : ∀ m, d ≠ .interface m) (hev : ∀ x, Rep w g h.length (ev x) (ρ x)) (hv : vop h ev (.mkIface t x) K) :
    VOk P w g h.length (do pure (.value (← Instr.makeInterface t (ρ x)))) K := by
  simp only [vop] at hv
  refine VOk.of (v := .iface t (ρ x)) ?_ (by simp only [Rep]; exact ⟨_, rfl, hev x⟩) (NoOwn.ifc _ _) hv
  simp only [Instr.makeInterface, Sem.run_bind, run_und hu, Result.andThen_ok]
  rfl

theorem Reps.evs {n : Nat} (hev : ∀ x, Rep w g n (ev x) (ρ x)) : ∀ (l : List Operand), Reps w g n (l.map ev) (l.map ρ)
  | [] => by simp [Reps]
  | x :: l => Reps.cons'.2 ⟨hev x, Reps.evs hev l⟩

theorem sound_mkFunc {f : Fn} {first caps : Array Operand} (hev : ∀ x, Rep w g h.length (ev x) (ρ x)) (hv : vop h ev (.mkFunc f first.toList caps.toList) K) :
    VOk P w g h.length (do pure (.value (← Instr.makeFunc f (first.map ρ) (caps.map ρ)))) K := by
  simp only [vop] at hv
  refine VOk.of (v := .func f (first.map ρ) (caps.map ρ)) rfl ?_ (NoOwn.fn _ _ _) hv
  simp only [Rep]
  exact ⟨_, _, rfl, by simpa using Reps.evs hev first.toList, by simpa using Reps.evs hev caps.toList⟩

theorem sound_len {args : Array Operand} {argTypes : Array TypeId} {ao : AOp} {type : TypeId} (hc : cop P (.call { callee := .builtin .len, args, argTypes }) = some ao) (hev : ∀ x, Rep w g h.length (ev x) (ρ x)) (hv : vop h ev ao K) :
    VOk P w g h.length (do let d ← resolve ρ { callee := .builtin .len, args, argTypes } type; invoke d.target d.args) K := by
  simp only [cop] at hc
  split at hc
  · rename_i x t hx ht
    have hc2 := hev x
    split at hc <;> simp at hc <;> subst hc
    · rename_i hu
      simp only [vop] at hv
      split at hv
      · rename_i s e1
        rw [e1, Rep.lit_iff] at hc2
        refine ⟨_, _, ?_, Rep.lit_iff.2 rfl, NoOwn.lit _, hv⟩
        simp [resolve, invoke, builtin, Builtin.len_, hx, ht, run_und hu, hc2, goInt]
      · exact hv.elim
    · rename_i e hu
      simp only [vop] at hv
      split at hv
      · rename_i c es e1
        rw [e1] at hc2
        simp only [Rep] at hc2
        obtain ⟨base, len, cap, hp, hlen, _⟩ := hc2
        refine ⟨_, _, ?_, Rep.lit_iff.2 rfl, NoOwn.lit _, hv⟩
        simp [resolve, invoke, builtin, Builtin.len_, hx, ht, run_und hu, hp, goInt, hlen]
      · rename_i c es e1 l e2
        rw [e2] at hc2
        simp only [Rep] at hc2
        refine ⟨_, _, ?_, Rep.lit_iff.2 rfl, NoOwn.lit _, hv⟩
        simp [resolve, invoke, builtin, Builtin.len_, hx, ht, run_und hu, hc2.1, goInt]
      · exact hv.elim
  · cases hc

def isV : AOp → Bool
  | .take _ | .box _ | .alloc _ | .store _ _ _ | .append _ _ _ _ _ | .toBytes _ | .buildSlice _ _ _ _ _ | .makeSlice _ _ _ _ _ _ | .call _ _ | .panic _ | .conv8 _ | .boxB _ _ _ => false
  | _ => true

theorem sound_minmax {mx : Bool} {x y : Operand} {args : Array Operand} {argTypes : Array TypeId} {type : TypeId} {dst pos after guard} (ha : args.toList = [x, y]) (hev : ∀ x, Rep w g h.length (ev x) (ρ x)) (hv : vop h ev (.minmax mx x y) K) :
    VOk P w g h.length (execOp ρ { dst := dst, op := .call { callee := .builtin (if mx then .max else .min), args, argTypes }, type, pos, after, guard }) K := by
  have ha' : args = #[x, y] := Array.ext' (by simpa using ha)
  subst ha'
  have hx := hev x
  have hy := hev y
  simp only [vop] at hv
  split at hv
  · rename_i k a k' b e1 e2
    rw [e1, Rep.lit_iff] at hx
    rw [e2, Rep.lit_iff] at hy
    refine ⟨_, _, ?_, Rep.lit_iff.2 rfl, NoOwn.lit _, hv⟩
    unfold execOp
    cases mx <;> simp [resolve, invoke, builtin, Builtin.max_, Builtin.min_, Builtin.max2, Builtin.min2, hx, hy]
  · exact hv.elim

theorem vop_sound {o : Oper} {ao : AOp} (hc : cop P o.op = some ao) (hV : isV ao = true) (hh : HeapOk w g h) (hev : ∀ x, Rep w g h.length (ev x) (ρ x)) (hno : ∀ x, NoOwn (ev x))
    (hv : vop h ev ao K) : VOk P w g h.length (execOp ρ o) K := by
  obtain ⟨dst, op, type, pos, after, guard⟩ := o
  simp only at hc
  cases op with
  | move x => simp only [cop] at hc; cases hc; exact sound_move hev hno hv
  | assign x => simp only [cop] at hc; cases hc; exact sound_move hev hno hv
  | pick c a b => simp only [cop] at hc; cases hc; exact sound_pick hev hno hv
  | nilCheck x => simp only [cop] at hc; cases hc; exact sound_nilCheck rfl hev hv
  | binOp op t x y ty =>
    simp only [cop] at hc
    split at hc
    · rename_i ht
      cases op <;> simp at hc <;> subst hc
      · exact sound_eqB ht rfl hev hv
      · exact sound_eqB ht rfl hev hv
    · split at hc
      · cases hc; exact sound_bin hev hv
      · split at hc
        · rename_i kind hk
          cases op <;> simp at hc <;> subst hc
          · exact sound_eqN hk rfl hev hv
          · exact sound_eqN hk rfl hev hv
        · split at hc
          · rename_i ks hk
            cases op <;> simp at hc <;> subst hc
            · exact sound_eqS hk rfl hev hv
            · exact sound_eqS hk rfl hev hv
          · cases hc
  | unOp op t x => simp only [cop] at hc; cases hc; exact sound_un hev hv
  | convert src dst x =>
    simp only [cop] at hc
    split at hc
    · rename_i h1 h2; cases hc; exact sound_conv h1 h2 (hev _) hv
    · rename_i h1 h2; cases hc; exact sound_convS h1 h2 (hev _) hv
    · rename_i h1 h2
      split at hc
      · rename_i h3; cases hc; exact sound_toStr h1 h2 h3 (hev _) hv
      · cases hc
    · split at hc
      · cases hc; cases hV
      · cases hc
    · split at hc
      · split at hc <;> cases hc; cases hV
      · cases hc
    · cases hc
  | slice t x lo hi mx =>
    cases mx with
    | some _ => simp [cop] at hc
    | none =>
      simp only [cop] at hc
      split at hc
      · rename_i hu; cases hc; exact sound_sliceS hu hev hv
      · rename_i hu
        split at hc
        · rename_i hi'; cases hc; exact sound_slice hu hi' hev hv
        · cases hc
      · cases hc
  | fieldAddr s x f =>
    simp only [cop] at hc
    split at hc
    · rename_i hu
      split at hc
      · rename_i hf
        split at hc
        · rename_i hi
          split at hc
          · cases hc
          · rename_i hz; cases hc; exact sound_fieldAddr hu hf hi hz (hev _) hv
        · cases hc
      · cases hc
    · cases hc
  | field s x f =>
    simp only [cop] at hc
    split at hc
    · rename_i hu
      split at hc
      · rename_i hf
        split at hc
        · rename_i hn; cases hc; exact sound_field hu hf hn (hev _) hv
        · cases hc
      · cases hc
    · cases hc
  | indexAddr t x i =>
    simp only [cop] at hc
    split at hc
    · rename_i hu
      split at hc
      · rename_i hi; cases hc; exact sound_indexAddr hu hi hev hv
      · cases hc
    · rename_i hu
      split at hc
      · rename_i hi; cases hc; exact sound_indexAddrArr hu hi hev hv
      · cases hc
    · cases hc
  | index t x i =>
    simp only [cop] at hc
    split at hc
    · rename_i hu; cases hc; exact sound_indexS hu hev hv
    · rename_i hu
      split at hc
      · rename_i hi hn; cases hc; exact sound_indexArr hu hi hn hev hv
      · cases hc
    · cases hc
  | load t x =>
    simp only [cop] at hc
    split at hc
    · rename_i hn; cases hc; exact sound_load hn (hev _) hh hv
    · cases hc
  | store t x y => simp only [cop] at hc; split at hc <;> cases hc; cases hV
  | extract x i => simp only [cop] at hc; cases hc; exact sound_extract hev hv
  | makeInterface t x =>
    simp only [cop] at hc
    split at hc
    · cases hc
    · rename_i d hd hu; cases hc; exact sound_mkIface hu (fun m hm => hd m hm) hev hv
    · cases hc
  | makeFunc f first caps => simp only [cop] at hc; cases hc; exact sound_mkFunc hev hv
  | build t parts => exact sound_build hc hev hv
  | box t x => simp only [cop] at hc; cases hc; cases hV
  | alloc t =>
    simp only [cop] at hc
    split at hc
    · split at hc <;> cases hc; cases hV
    · cases hc
  | buildSlice t len parts =>
    simp only [cop] at hc
    split at hc
    · split at hc
      · split at hc <;> cases hc; cases hV
      · cases hc
    · cases hc
  | makeSlice t l c =>
    simp only [cop] at hc
    split at hc
    · split at hc
      · split at hc <;> cases hc; cases hV
      · cases hc
    · cases hc
  | panic x => simp only [cop] at hc; cases hc; cases hV
  | call c =>
    obtain ⟨callee, args, argTypes⟩ := c
    cases callee with
    | value f => simp only [cop] at hc; cases hc; cases hV
    | invoke r m => simp [cop] at hc
    | builtin b =>
      cases b <;> try (simp [cop] at hc; done)
      case len => exact sound_len hc hev hv
      case max => simp only [cop] at hc; split at hc <;> cases hc; rename_i ha; exact sound_minmax (mx := true) ha hev hv
      case min => simp only [cop] at hc; split at hc <;> cases hc; rename_i ha; exact sound_minmax (mx := false) ha hev hv
      case append =>
        simp only [cop] at hc
        split at hc
        · split at hc
          · split at hc
            · split at hc <;> cases hc; cases hV
            · split at hc <;> cases hc; cases hV
            · cases hc
          · cases hc
        · cases hc
  | _ => simp [cop] at hc

end Go.Abs
