/- Loops by a measure; states that know less. -/
import Derived.Test.YtloimemacnjpgaaGreatAbsV
set_option linter.all false
namespace Go.Abs
open Go Go.RowKit

theorem weak_of {σ σ' : ASt} (hh : σ'.heap = σ.heap) (hl : ∀ p, p ∈ σ'.tmps → look σ.tmps p.1 = p.2) : Weak σ σ' := by
  refine ⟨hh, fun i => ?_⟩
  have : ∀ l : List (Nat × AV), (∀ p, p ∈ l → look σ.tmps p.1 = p.2) → look l i = look σ.tmps i ∨ look l i = .any := by
    intro l
    induction l with
    | nil => intro _; exact .inr rfl
    | cons x l ih =>
      intro h
      obtain ⟨j, v⟩ := x
      by_cases hj : j = i
      · subst hj
        rw [look_cons_same]
        exact .inl (h (j, v) (by simp)).symm
      · rw [look_cons_ne hj]
        exact ih fun p hp => h p (by simp [hp])
  exact this _ hl

theorem Weak.refl (σ : ASt) : Weak σ σ := ⟨rfl, fun _ => .inl rfl⟩

theorem LoopF.by {E : Env} {c : ACode} {Q : AEx → ASt → Prop} {s t} {σ : ASt} {α : Type} (st : α → ASt) (m : α → Nat) (inv : α → Prop) (x0 : α) (h0 : inv x0) (hw : Weak σ (st x0))
    (hs : ∀ x, inv x → awp E c (thenQ (fun σ'' => ∃ y, inv y ∧ m y < m x ∧ Weak σ'' (st y)) Q) (st x)) : LoopF E c Q s t σ := by
  refine ⟨fun n σ' => ∃ x, inv x ∧ m x = n ∧ σ' = st x, ⟨m x0, st x0, hw, x0, h0, rfl, rfl⟩, ?_⟩
  rintro n _ ⟨x, hx, rfl, rfl⟩
  have := hs x hx
  have e : (fun σ'' => ∃ mm σ0, mm < m x ∧ Weak σ'' σ0 ∧ ∃ x, inv x ∧ m x = mm ∧ σ0 = st x) = (fun σ'' => ∃ y, inv y ∧ m y < m x ∧ Weak σ'' (st y)) := by
    funext σ''
    apply propext
    constructor
    · rintro ⟨mm, _, h1, h2, y, h3, rfl, rfl⟩; exact ⟨y, h3, h1, h2⟩
    · rintro ⟨y, h3, h1, h2⟩; exact ⟨_, _, h1, h2, y, h3, rfl, rfl⟩
  rw [e]
  exact this

theorem aw11 :
    (∀ (ev : Operand → AV) cs, fillA ev cs [] = some cs) ∧
    (∀ (ev : Operand → AV) cs off n x rest, fillA ev cs ((off, n, x) :: rest) = if ((ev x).sure = true ∧ (ev x).cells.length = n) ∧ off + n ≤ cs.length then fillA ev (setMany cs off (ev x).cells) rest else none) ∧
    (∀ cs off, setMany cs off [] = cs) ∧ (∀ cs off v l, setMany cs off (v :: l) = setMany (cs.set off v) (off + 1) l) ∧
    (∀ k n, AV.sure (.lit (.int k n)) = true) ∧ (∀ b, AV.sure (.lit (.bool b)) = true) ∧ (∀ b, AV.sure (.lit (.string b)) = true) ∧ (AV.sure (.lit .nilIface) = true) ∧ (AV.sure (.lit .nilFunc) = true) ∧
    (∀ p, AV.sure (.lit (.pointer p)) = true) ∧ (∀ p, AV.sure (.lit (.map p)) = true) ∧ (∀ c es, AV.sure (.sl c es) = true) ∧ (∀ cs, AV.sure (.cp cs) = true) ∧ (∀ a b, AV.sure (.ref a b) = true) ∧
    (∀ a b c d, AV.sure (.vw a b c d) = true) ∧ (∀ a b c, AV.sure (.fn a b c) = true) ∧ (∀ a b, AV.sure (.ifc a b) = true) ∧ (∀ cs, AV.sure (.agg cs) = true) ∧
    (∀ {α : Type} (a : α) l, (a :: l).length = l.length + 1) ∧ (∀ {α : Type}, ([] : List α).length = 0) ∧
    (∀ {α : Type} (a b : α) l, (a :: l).set 0 b = b :: l) ∧ (∀ {α : Type} (a b : α) l n, (a :: l).set (n + 1) b = a :: l.set n b) ∧
    (∀ p : Prop, (True ∧ p) = p) ∧ (∀ p : Prop, (p ∧ True) = p) ∧ (∀ a b c d, AV.cells (.vw a b c d) = [.vw a b c d]) ∧ (∀ a b, AV.cells (.ifc a b) = [.ifc a b]) ∧ (∀ a, AV.cells (.cp a) = [.cp a]) := by
  refine ⟨fun _ _ => rfl, fun ev cs off n x rest => ?_, fun _ _ => rfl, fun _ _ _ _ => rfl, fun _ _ => rfl, fun _ => rfl, fun _ => rfl, rfl, rfl, fun _ => rfl, fun _ => rfl, fun _ _ => rfl, fun _ => rfl, fun _ _ => rfl, fun _ _ _ _ => rfl, fun _ _ _ => rfl, fun _ _ => rfl, fun _ => rfl,
    fun _ _ => rfl, rfl, fun _ _ _ => rfl, fun _ _ _ _ => rfl, fun _ => by simp, fun _ => by simp, fun _ _ _ _ => rfl, fun _ _ => rfl, fun _ => rfl⟩
  simp only [fillA, and_assoc]

theorem aw12 :
    (∀ k n, AV.one (.lit (.int k n)) = true) ∧ (∀ b, AV.one (.lit (.bool b)) = true) ∧ (∀ b, AV.one (.lit (.string b)) = true) ∧ (AV.one (.lit .nilIface) = true) ∧ (∀ c es, AV.one (.sl c es) = true) ∧ (∀ a b, AV.one (.ref a b) = true) ∧
    (∀ cs, AV.one (.cp cs) = true) ∧ (∀ a b, AV.one (.ifc a b) = true) ∧ (∀ a b c d, AV.one (.vw a b c d) = true) ∧
    (∀ {α : Type} (p : α → Bool), List.all [] p = true) ∧ (∀ {α : Type} (p : α → Bool) a l, List.all (a :: l) p = (p a && List.all l p)) ∧ (∀ b, (true && b) = b) ∧ (∀ b, (false && b) = false) := by
  refine ⟨fun _ _ => rfl, fun _ => rfl, fun _ => rfl, rfl, fun _ _ => rfl, fun _ _ => rfl, fun _ => rfl, fun _ _ => rfl, fun _ _ _ _ => rfl, fun _ => rfl, fun _ _ _ => rfl, fun _ => rfl, fun _ => rfl⟩

theorem aw14 :
    (∀ c es, argElems (.sl c es) = some es) ∧ (∀ b, argElems (.lit (.string b)) = some (b.data.toList.map fun b => .lit (.int .u8 b.toNat))) ∧
    (nilness 0 (.lit (.pointer none)) = some true) ∧ (∀ a b, nilness 0 (.ref a b) = some false) ∧ (∀ a, nilness 0 (.cp a) = some false) ∧ (nilness 1 (.lit .nilFunc) = some true) ∧ (∀ a b c, nilness 1 (.fn a b c) = some false) ∧
    (nilness 2 (.lit .nilIface) = some true) ∧ (∀ t v, nilness 2 (.ifc t v) = some false) ∧ (nilness 3 (.lit (.map none)) = some true) ∧ (∀ b, (false ^^ b) = b) ∧ (∀ b, (true ^^ b) = !b) := by
  refine ⟨fun _ _ => rfl, fun _ => rfl, rfl, fun _ _ => rfl, fun _ => rfl, rfl, fun _ _ _ => rfl, rfl, fun _ _ => rfl, rfl, fun b => by cases b <;> rfl, fun b => by cases b <;> rfl⟩

theorem aw15 :
    (∀ σ u n rs K t, rvsF σ (.cell u (some n) :: rs) K t = mPtr (look σ.tmps u) (fun id off => mObj σ.heap[id]? (fun l => Need (off + n ≤ l.length) (rvsF σ rs (fun vs => K (.agg (((l.drop off).take n).map AV.strip) :: vs)) .t) .t) .t) (fun _ => False) .t .t) ∧
    (∀ σ u rs K t, rvsF σ (.cell u none :: rs) K t = mPtr (look σ.tmps u) (fun id off => mObj σ.heap[id]? (fun l => mOpt l[off]? (fun v => rvsF σ rs (fun vs => K (v.strip :: vs)) .t) .t) .t) (fun _ => False) .t .t) := by
  constructor
  · intro σ u n rs K t
    simp only [rvsF, rvs, rv, mPtr, mObj]
    cases look σ.tmps u with
    | ref a b => simp only; cases σ.heap[a]? with
      | none => rfl
      | some o => cases o <;> rfl
    | _ => rfl
  · intro σ u rs K t
    simp only [rvsF, rvs, rv, mPtr, mObj, mOpt]
    first
    | done
    | (cases look σ.tmps u <;> first | rfl | (simp only; done) | (simp only; rename_i a b; cases σ.heap[a]? <;> first | rfl | (simp only; done) | (rename_i o; cases o <;> first | rfl | (simp only; done) | (simp only; rename_i l; cases l[b]? <;> rfl))))

theorem aw16 :
    (∀ (E : Env) σ len k n x i K s t, vF E σ (.indexArr len k (some n) x i) K s t = mAgg (σ.ev E x) (fun cs => mInt (σ.ev E i) (fun _ j => Need ((0 ≤ j ∧ j < len) ∧ len * k ≤ cs.length ∧ 0 < k) (K (.agg ((cs.drop (j.toNat * k)).take n))) .t) .t) .t) ∧
    (∀ (E : Env) σ len k x i K s t, vF E σ (.indexArr len k none x i) K s t = mAgg (σ.ev E x) (fun cs => mInt (σ.ev E i) (fun _ j => Need ((0 ≤ j ∧ j < len) ∧ len * k ≤ cs.length ∧ 0 < k) (Elem cs (j.toNat * k) (fun e => K e.strip) .t) .t) .t) .t) := by
  constructor
  · intro E σ len k n x i K s t
    simp only [vF, vop, mAgg, mInt]
    cases ASt.ev E σ x with
    | agg cs => simp only; cases ASt.ev E σ i with
      | lit v => cases v <;> first | rfl | (simp only [Need]; exact propext ⟨fun h => ⟨⟨h.1, h.2.2⟩, h.2.1⟩, fun h => ⟨h.1.1, h.2, h.1.2⟩⟩)
      | _ => rfl
    | _ => rfl
  · intro E σ len k x i K s t
    simp only [vF, vop, mAgg, mInt]
    cases ASt.ev E σ x with
    | agg cs => simp only; cases ASt.ev E σ i with
      | lit v => cases v <;> first | rfl | (simp only [Need, Elem]; exact propext ⟨fun h => ⟨⟨h.1, h.2.2⟩, h.2.1⟩, fun h => ⟨h.1.1, h.2, h.1.2⟩⟩)
      | _ => rfl
    | _ => rfl

theorem Fin.here {h : List AObj} {n : Nat} {v : AV} {Q : ARes → List AObj → Prop} {t} (hn : n ≤ h.length) (hc : Closed h) (hu : AV.under h.length v = true) (hq : Q (.ret v) h) : Fin h n v Q t := ⟨h, [], by simp, hn, fun _ _ => ⟨hc, hu⟩, hq⟩
theorem Fin.junk {h h' junk : List AObj} {n : Nat} {v : AV} {Q : ARes → List AObj → Prop} {t} (he : h' = h ++ junk) (hn : n ≤ h.length) (hc : Closed h) (hu : AV.under h.length v = true) (hq : Q (.ret v) h) : Fin h' n v Q t := ⟨h, junk, he, hn, fun _ _ => ⟨hc, hu⟩, hq⟩

theorem aw17 : (∀ (E : Env) σ o K, adop E (ASt.heap σ) (ASt.ev E σ) o K = adopF E σ o K .t .t) := fun _ _ _ _ => rfl

def mBld (v : AV) (K : List AV → Prop) (_ : Tag K) : Prop := match v with | .agg (.lit (.pointer none) :: .lit (.slice none 0 0) :: rest) => K rest | _ => False

theorem aw18 : (∀ (E : Env) σ d e te x K Q r s t, aopF E σ d K Q (.boxB e te x) r s t = mBld (σ.ev E x) (fun rest => K ({ σ with heap := σ.heap ++ [AObj.cells (.bp e :: .buf te [] :: rest.map AV.strip)] }.putO d (.ref σ.heap.length 0))) .t) ∧
    (∀ rest K t, mBld (.agg (.lit (.pointer none) :: .lit (.slice none 0 0) :: rest)) K t = K rest) := ⟨fun _ _ _ _ _ _ _ _ _ _ _ => rfl, fun _ _ _ => rfl⟩

end Go.Abs
