/- Composite values; the value operations, all of them. -/
import Derived.Test.YtenhfnadhmjloaaDoorAbsF
import Derived.Laws.Tables
import Derived.Great.BuildSlice
set_option linter.all false
namespace Go.Abs
open Go Go.RowKit

variable {P : Program} {w : World} {g : Gh} {h : List AObj} {ρ : Operand → Value} {ev : Operand → AV} {K : AV → Prop}

theorem setMany_reps {n : Nat} : ∀ (avs : List AV) (vs : List Value) (k off : Nat) (l : List AV) (cells : Array Value), Reps w g n avs vs → Reps w g n l cells.toList →
    Reps w g n (setMany l (off + k) avs) ((vs.zipIdx k).foldl (fun cs (x : Value × Nat) => cs.setIfInBounds (off + x.2) x.1) cells).toList := by
  intro avs
  induction avs with
  | nil => intro vs k off l cells h1 h2; simp [Reps] at h1; subst h1; simpa [setMany] using h2
  | cons a avs ih =>
    intro vs k off l cells h1 h2
    obtain ⟨v, rest, rfl, h3, h4⟩ := Reps.cons.1 h1
    simp only [setMany, List.zipIdx_cons, List.foldl_cons, Nat.add_assoc]
    refine ih rest (k + 1) off _ _ h4 ?_
    rw [Array.toList_setIfInBounds]
    exact h2.set _ h3

theorem setMany_length : ∀ (avs l : List AV) (off : Nat), (setMany l off avs).length = l.length
  | [], l, off => rfl
  | a :: avs, l, off => by simp [setMany, setMany_length avs]

theorem fill_reps {n : Nat} {place : Nat → Option (Nat × Nat)} (hev : ∀ x, Rep w g n (ev x) (ρ x)) : ∀ (parts : List (Nat × Operand)) (ps : List (Nat × Nat × Operand)) (l l' : List AV) (cells : Array Value),
    placed place parts = some ps → Reps w g n l cells.toList → fillA ev l ps = some l' →
    ∃ cells', Instr.fill place cells (parts.map fun x => (x.1, ρ x.2)) = some cells' ∧ Reps w g n l' cells'.toList := by
  intro parts
  induction parts with
  | nil => intro ps l l' cells h1 h2 h3; simp [placed] at h1; subst h1; simp [fillA] at h3; subst h3; exact ⟨cells, rfl, h2⟩
  | cons p parts ih =>
    obtain ⟨i, x⟩ := p
    intro ps l l' cells h1 h2 h3
    simp only [placed] at h1
    split at h1
    · rename_i off m ps' e1 e2
      cases h1
      simp only [fillA] at h3
      split at h3
      · rename_i hc
        obtain ⟨hs, hn, hle⟩ := hc
        have hr := (hev x).cells hs
        have hsz : (ρ x).cells.size = m := by have := hr.length; simp at this; omega
        have hcl : cells.size = l.length := by have := h2.length; simpa using this
        have := setMany_reps _ _ 0 off l cells hr h2
        simp only [List.map_cons, Instr.fill, e1]
        rw [if_neg (by simp [hsz]; omega)]
        have hfold : (ρ x).cells.zipIdx.foldl (fun cs (y : Value × Nat) => cs.setIfInBounds (off + y.2) y.1) cells = ((ρ x).cells.toList.zipIdx 0).foldl (fun cs (y : Value × Nat) => cs.setIfInBounds (off + y.2) y.1) cells := by
          rw [← Array.foldl_toList, Array.toList_zipIdx]
        obtain ⟨cells', h5, h6⟩ := ih ps' _ l' _ e2 (by simpa using this) h3
        refine ⟨cells', ?_, h6⟩
        rw [← h5]
        exact congrArg (fun c => Instr.fill place c _) hfold
      · cases h3
    · cases h1

theorem sound_build {t : TypeId} {parts : Array (Nat × Operand)} {ao : AOp} (hc : cop P (.build t parts) = some ao) (hev : ∀ x, Rep w g h.length (ev x) (ρ x)) (hv : vop h ev ao K) :
    VOk P w g h.length (do pure (.value (← Instr.build t (parts.map fun (i, x) => (i, ρ x))))) K := by
  have fin : ∀ (cs : List AV) (cells' : Array Value), P.built t (parts.map fun (i, x) => (i, ρ x)).toList = some cells' → Reps w g h.length cs cells'.toList → K (.agg cs) →
      VOk P w g h.length (do pure (.value (← Instr.build t (parts.map fun (i, x) => (i, ρ x))))) K := by
    intro cs cells' hb hr hk
    exact VOk.of (run_build w t _ cells' hb) (by simp only [Rep]; exact ⟨_, rfl, hr⟩) (NoOwn.agg _) hk
  simp only [cop] at hc
  split at hc
  · rename_i it n e hi hu
    split at hc
    · rename_i z ie hz hie
      split at hc
      · rename_i l hl
        cases hc
        simp only [vop] at hv
        split at hv
        · rename_i cs hcs
          obtain ⟨cells', h1, h2⟩ := fill_reps (n := h.length) hev _ _ _ _ z.cells hl (Reps.ofCells _) hcs
          exact fin cs cells' (by simp only [Program.built, hi, hu, hz, hie]; simpa using h1) h2 hv
        · exact hv.elim
      · cases hc
    · cases hc
  · rename_i it fields hi hu
    split at hc
    · rename_i z places hz hp
      split at hc
      · rename_i l hl
        cases hc
        simp only [vop] at hv
        split at hv
        · rename_i cs hcs
          obtain ⟨cells', h1, h2⟩ := fill_reps (n := h.length) hev _ _ _ _ z.cells hl (Reps.ofCells _) hcs
          exact fin cs cells' (by simp only [Program.built, hi, hu, hz, hp]; simpa using h1) h2 hv
        · exact hv.elim
      · cases hc
    · cases hc
  · cases hc

theorem sound_move {x : Operand} (hev : ∀ x, Rep w g h.length (ev x) (ρ x)) (hno : ∀ x, NoOwn (ev x)) (hv : vop h ev (.move x) K) : VOk P w g h.length (pure (.value (ρ x))) K :=
  ⟨ρ x, ev x, rfl, hev x, hno x, hv⟩

theorem sound_pick {c a b : Operand} (hev : ∀ x, Rep w g h.length (ev x) (ρ x)) (hno : ∀ x, NoOwn (ev x)) (hv : vop h ev (.pick c a b) K) :
    VOk P w g h.length (do pure (.value (if ← asBool (ρ c) then ρ a else ρ b))) K := by
  have hc := hev c
  simp only [vop] at hv
  split at hv
  · rename_i t e1
    rw [e1, Rep.lit_iff] at hc
    rw [hc]
    cases t
    · exact ⟨ρ b, ev b, rfl, hev b, hno b, hv⟩
    · exact ⟨ρ a, ev a, rfl, hev a, hno a, hv⟩
  · exact hv.elim

theorem sound_nilCheck {x : Operand} {o : Oper} (ho : o.op = .nilCheck x) (hev : ∀ x, Rep w g h.length (ev x) (ρ x)) (hv : vop h ev (.nilCheck x) K) : VOk P w g h.length (execOp ρ o) K := by
  have hc := hev x
  simp only [vop] at hv
  unfold execOp
  simp only [ho]
  split at hv
  · rename_i id off e1
    rw [e1] at hc; have hc' := hc; simp only [Rep] at hc'; rw [hc'.1]; rw [hc'.1] at hc
    exact ⟨_, _, rfl, hc, NoOwn.ref _ _, hv⟩
  · rename_i cs e1
    rw [e1] at hc; have hc' := hc; simp only [Rep] at hc'; obtain ⟨b, off, vs, hp, _⟩ := hc'; rw [hp]; rw [hp] at hc
    exact ⟨_, _, rfl, hc, NoOwn.cp _, hv⟩
  · rename_i f a b e1
    rw [e1] at hc; have hc' := hc; simp only [Rep] at hc'; obtain ⟨fa, ca, hp, _⟩ := hc'; rw [hp]; rw [hp] at hc
    exact ⟨_, _, rfl, hc, NoOwn.fn _ _ _, hv⟩
  · rename_i t v e1
    rw [e1] at hc; have hc' := hc; simp only [Rep] at hc'; obtain ⟨y, hp, _⟩ := hc'; rw [hp]; rw [hp] at hc
    exact ⟨_, _, rfl, hc, NoOwn.ifc _ _, hv⟩
  · exact hv.elim

theorem sound_extract {x : Operand} {i : Nat} (hev : ∀ x, Rep w g h.length (ev x) (ρ x)) (hv : vop h ev (.extract x i) K) :
    VOk P w g h.length (do pure (.value (← Instr.extract (ρ x) i))) K := by
  have hc := hev x
  simp only [vop] at hv
  split at hv
  · rename_i vs e1
    rw [e1] at hc
    simp only [Rep] at hc
    obtain ⟨a, hp, hR⟩ := hc
    rw [hp]
    split at hv
    · rename_i av hav
      obtain ⟨v, h1, h2⟩ := hR.get _ _ hav
      exact VOk.of (by simp [Instr.extract, show a[i]? = some v by simpa using h1]) h2.strip (NoOwn.strip _) hv
    · exact hv.elim
  · exact hv.elim

theorem sound_mkIface {t : TypeId} {d : TypeDesc} {x : Operand} (hu : P.underlying t = some d) (hd : ∀ m, d ≠ .interface m) (hev : ∀ x, Rep w g h.length (ev x) (ρ x)) (hv : vop h ev (.mkIface t x) K) :
    VOk P w g h.length (do pure (.value (← Instr.makeInterface t (ρ x)))) K := by
  simp only [vop] at hv
  refine VOk.of (v := .iface t (ρ x)) ?_ (by simp only [Rep]; exact ⟨_, rfl, hev x⟩) (NoOwn.ifc _ _) hv
  simp only [Instr.makeInterface, Sem.run_bind, run_und hu, Result.andThen_ok]
  rfl

theorem Reps.evs {n : Nat} (hev : ∀ x, Rep w g n (ev x) (ρ x)) : ∀ (l : List Operand), Reps w g n (l.map ev) (l.map ρ)
  | [] => by simp [Reps]
  | x :: l => Reps.cons'.2 ⟨hev x, Reps.evs hev l⟩

theorem sound_mkFunc {f : Fn} {first caps : Array Operand} (hev : ∀ x, Rep w g h.length (ev x) (ρ x)) (hv : vop h ev (.mkFunc f first.toList caps.toList) K) :
    VOk P w g h.length (do pure (.value (← Instr.makeFunc f (first.map ρ) (caps.map ρ)))) K := by
  simp only [vop] at hv
  refine VOk.of (v := .func f (first.map ρ) (caps.map ρ)) rfl ?_ (NoOwn.fn _ _ _) hv
  simp only [Rep]
  exact ⟨_, _, rfl, by simpa using Reps.evs hev first.toList, by simpa using Reps.evs hev caps.toList⟩

theorem sound_len {args : Array Operand} {argTypes : Array TypeId} {ao : AOp} {type : TypeId} (hc : cop P (.call { callee := .builtin .len, args, argTypes }) = some ao) (hev : ∀ x, Rep w g h.length (ev x) (ρ x)) (hv : vop h ev ao K) :
    VOk P w g h.length (do let d ← resolve ρ { callee := .builtin .len, args, argTypes } type; invoke d.target d.args) K := by
  simp only [cop] at hc
  split at hc
  · rename_i x t hx ht
    have hc2 := hev x
    split at hc <;> simp at hc <;> subst hc
    · rename_i hu
      simp only [vop] at hv
      split at hv
      · rename_i s e1
        rw [e1, Rep.lit_iff] at hc2
        refine ⟨_, _, ?_, Rep.lit_iff.2 rfl, NoOwn.lit _, hv⟩
        simp [resolve, invoke, builtin, Builtin.len_, hx, ht, run_und hu, hc2, goInt]
      · exact hv.elim
    · rename_i e hu
      simp only [vop] at hv
      split at hv
      · rename_i c es e1
        rw [e1] at hc2
        simp only [Rep] at hc2
        obtain ⟨base, len, cap, hp, hlen, _⟩ := hc2
        refine ⟨_, _, ?_, Rep.lit_iff.2 rfl, NoOwn.lit _, hv⟩
        simp [resolve, invoke, builtin, Builtin.len_, hx, ht, run_und hu, hp, goInt, hlen]
      · rename_i c es e1 l e2
        rw [e2] at hc2
        simp only [Rep] at hc2
        refine ⟨_, _, ?_, Rep.lit_iff.2 rfl, NoOwn.lit _, hv⟩
        simp [resolve, invoke, builtin, Builtin.len_, hx, ht, run_und hu, hc2.1, goInt]
      · exact hv.elim
  · cases hc

def isV : AOp → Bool
  | .take _ | .box _ | .alloc _ | .store _ _ _ | .append _ _ _ _ _ | .toBytes _ | .buildSlice _ _ _ _ _ | .makeSlice _ _ _ _ _ _ | .call _ _ | .panic _ | .conv8 _ => false
  | _ => true

theorem sound_minmax {mx : Bool} {x y : Operand} {args : Array Operand} {argTypes : Array TypeId} {type : TypeId} {dst pos after guard} (ha : args.toList = [x, y]) (hev : ∀ x, Rep w g h.length (ev x) (ρ x)) (hv : vop h ev (.minmax mx x y) K) :
    VOk P w g h.length (execOp ρ { dst := dst, op := .call { callee := .builtin (if mx then .max else .min), args, argTypes }, type, pos, after, guard }) K := by
  have ha' : args = #[x, y] := Array.ext' (by simpa using ha)
  subst ha'
  have hx := hev x
  have hy := hev y
  simp only [vop] at hv
  split at hv
  · rename_i k a k' b e1 e2
    rw [e1, Rep.lit_iff] at hx
    rw [e2, Rep.lit_iff] at hy
    refine ⟨_, _, ?_, Rep.lit_iff.2 rfl, NoOwn.lit _, hv⟩
    unfold execOp
    cases mx <;> simp [resolve, invoke, builtin, Builtin.max_, Builtin.min_, Builtin.max2, Builtin.min2, hx, hy]
  · exact hv.elim

theorem vop_sound {o : Oper} {ao : AOp} (hc : cop P o.op = some ao) (hV : isV ao = true) (hh : HeapOk w g h) (hev : ∀ x, Rep w g h.length (ev x) (ρ x)) (hno : ∀ x, NoOwn (ev x))
    (hv : vop h ev ao K) : VOk P w g h.length (execOp ρ o) K := by
  obtain ⟨dst, op, type, pos, after, guard⟩ := o
  simp only at hc
  cases op with
  | move x => simp only [cop] at hc; cases hc; exact sound_move hev hno hv
  | assign x => simp only [cop] at hc; cases hc; exact sound_move hev hno hv
  | pick c a b => simp only [cop] at hc; cases hc; exact sound_pick hev hno hv
  | nilCheck x => simp only [cop] at hc; cases hc; exact sound_nilCheck rfl hev hv
  | binOp op t x y ty =>
    simp only [cop] at hc
    split at hc
    · rename_i ht
      cases op <;> simp at hc <;> subst hc
      · exact sound_eqB ht rfl hev hv
      · exact sound_eqB ht rfl hev hv
    · split at hc
      · cases hc; exact sound_bin hev hv
      · split at hc
        · rename_i kind hk
          cases op <;> simp at hc <;> subst hc
          · exact sound_eqN hk rfl hev hv
          · exact sound_eqN hk rfl hev hv
        · cases hc
  | unOp op t x => simp only [cop] at hc; cases hc; exact sound_un hev hv
  | convert src dst x =>
    simp only [cop] at hc
    split at hc
    · rename_i h1 h2; cases hc; exact sound_conv h1 h2 (hev _) hv
    · rename_i h1 h2; cases hc; exact sound_convS h1 h2 (hev _) hv
    · rename_i h1 h2
      split at hc
      · rename_i h3; cases hc; exact sound_toStr h1 h2 h3 (hev _) hv
      · cases hc
    · split at hc
      · cases hc; cases hV
      · cases hc
    · split at hc
      · split at hc <;> cases hc; cases hV
      · cases hc
    · cases hc
  | slice t x lo hi mx =>
    cases mx with
    | some _ => simp [cop] at hc
    | none =>
      simp only [cop] at hc
      split at hc
      · rename_i hu; cases hc; exact sound_sliceS hu hev hv
      · rename_i hu
        split at hc
        · rename_i hi'; cases hc; exact sound_slice hu hi' hev hv
        · cases hc
      · cases hc
  | fieldAddr s x f =>
    simp only [cop] at hc
    split at hc
    · rename_i hu
      split at hc
      · rename_i hf
        split at hc
        · rename_i hi
          split at hc
          · cases hc
          · rename_i hz; cases hc; exact sound_fieldAddr hu hf hi hz (hev _) hv
        · cases hc
      · cases hc
    · cases hc
  | field s x f =>
    simp only [cop] at hc
    split at hc
    · rename_i hu
      split at hc
      · rename_i hf
        split at hc
        · rename_i hn; cases hc; exact sound_field hu hf hn (hev _) hv
        · cases hc
      · cases hc
    · cases hc
  | indexAddr t x i =>
    simp only [cop] at hc
    split at hc
    · rename_i hu
      split at hc
      · rename_i hi; cases hc; exact sound_indexAddr hu hi hev hv
      · cases hc
    · rename_i hu
      split at hc
      · rename_i hi; cases hc; exact sound_indexAddrArr hu hi hev hv
      · cases hc
    · cases hc
  | index t x i =>
    simp only [cop] at hc
    split at hc
    · rename_i hu; cases hc; exact sound_indexS hu hev hv
    · rename_i hu
      split at hc
      · rename_i hi hn; cases hc; exact sound_indexArr hu hi hn hev hv
      · cases hc
    · cases hc
  | load t x =>
    simp only [cop] at hc
    split at hc
    · rename_i hn; cases hc; exact sound_load hn (hev _) hh hv
    · cases hc
  | store t x y => simp only [cop] at hc; split at hc <;> cases hc; cases hV
  | extract x i => simp only [cop] at hc; cases hc; exact sound_extract hev hv
  | makeInterface t x =>
    simp only [cop] at hc
    split at hc
    · cases hc
    · rename_i d hd hu; cases hc; exact sound_mkIface hu (fun m hm => hd m hm) hev hv
    · cases hc
  | makeFunc f first caps => simp only [cop] at hc; cases hc; exact sound_mkFunc hev hv
  | build t parts => exact sound_build hc hev hv
  | box t x => simp only [cop] at hc; cases hc; cases hV
  | alloc t =>
    simp only [cop] at hc
    split at hc
    · split at hc <;> cases hc; cases hV
    · cases hc
  | buildSlice t len parts =>
    simp only [cop] at hc
    split at hc
    · split at hc
      · split at hc <;> cases hc; cases hV
      · cases hc
    · cases hc
  | makeSlice t l c =>
    simp only [cop] at hc
    split at hc
    · split at hc
      · split at hc <;> cases hc; cases hV
      · cases hc
    · cases hc
  | panic x => simp only [cop] at hc; cases hc; cases hV
  | call c =>
    obtain ⟨callee, args, argTypes⟩ := c
    cases callee with
    | value f => simp only [cop] at hc; cases hc; cases hV
    | invoke r m => simp [cop] at hc
    | builtin b =>
      cases b <;> try (simp [cop] at hc; done)
      case len => exact sound_len hc hev hv
      case max => simp only [cop] at hc; split at hc <;> cases hc; rename_i ha; exact sound_minmax (mx := true) ha hev hv
      case min => simp only [cop] at hc; split at hc <;> cases hc; rename_i ha; exact sound_minmax (mx := false) ha hev hv
      case append =>
        simp only [cop] at hc
        split at hc
        · split at hc
          · split at hc
            · split at hc <;> cases hc; cases hV
            · split at hc <;> cases hc; cases hV
            · cases hc
          · cases hc
        · cases hc
  | _ => simp [cop] at hc

end Go.Abs
