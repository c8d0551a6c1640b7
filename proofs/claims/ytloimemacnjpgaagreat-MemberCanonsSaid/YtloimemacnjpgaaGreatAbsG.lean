/- Composite values; the value operations, all of them. -/
import Derived.Test.YtloimemacnjpgaaGreatAbsF
import Derived.Laws.Tables
import Derived.Great.BuildSlice
set_option linter.all false
namespace Go.Abs
open Go Go.RowKit

variable {P : Program} {w : World} {g : Gh} {h : List AObj} {ρ : Operand → Value} {ev : Operand → AV} {K : AV → Prop}

theorem setMany_reps {n : Nat} : ∀ (avs : List AV) (vs : List Value) (k off : Nat) (l : List AV) (cells : Array Value), Reps w g n avs vs → Reps w g n l cells.toList →
    Reps w g n (setMany l (off + k) avs) ((vs.zipIdx k).foldl (fun cs (x : Value × Nat) => cs.setIfInBounds (off + x.2) x.1) cells).toList := by
  intro avs
  induction avs with
  | nil => intro vs k off l cells h1 h2; simp [Reps] at h1; subst h1; simpa [setMany] using h2
  | cons a avs ih =>
    intro vs k off l cells h1 h2
    obtain ⟨v, rest, rfl, h3, h4⟩ := Reps.cons.1 h1
    simp only [setMany, List.zipIdx_cons, List.foldl_cons, Nat.add_assoc]
    refine ih rest (k + 1) off _ _ h4 ?_
    rw [Array.toList_setIfInBounds]
    exact h2.set _ h3

theorem setMany_length : ∀ (avs l : List AV) (off : Nat), (setMany l off avs).length = l.length
  | [], l, off => rfl
  | a :: avs, l, off => by simp [setMany, setMany_length avs]

theorem fill_reps {n : Nat} {place : Nat → Option (Nat × Nat)} (hev : ∀ x, Rep w g n (ev x) (ρ x)) : ∀ (parts : List (Nat × Operand)) (ps : List (Nat × Nat × Operand)) (l l' : List AV) (cells : Array Value),
    placed place parts = some ps → Reps w g n l cells.toList → fillA ev l ps = some l' →
    ∃ cells', Instr.fill place cells (parts.map fun x => (x.1, ρ x.2)) = some cells' ∧ Reps w g n l' cells'.toList := by
  intro parts
  induction parts with
  | nil => intro ps l l' cells h1 h2 h3; simp [placed] at h1; subst h1; simp [fillA] at h3; subst h3; exact ⟨cells, rfl, h2⟩
  | cons p parts ih =>
    obtain ⟨i, x⟩ := p
    intro ps l l' cells h1 h2 h3
    simp only [placed] at h1
    split at h1
    · rename_i off m ps' e1 e2
      cases h1
      simp only [fillA] at h3
      split at h3
      · rename_i hc
        obtain ⟨hs, hn, hle⟩ := hc
        have hr := (hev x).cells hs
        have hsz : (ρ x).cells.size = m := by have := hr.length; simp at this; omega
        have hcl : cells.size = l.length := by have := h2.length; simpa using this
        have := setMany_reps _ _ 0 off l cells hr h2
        simp only [List.map_cons, Instr.fill, e1]
        rw [if_neg (by simp [hsz]; omega)]
        have hfold : (ρ x).cells.zipIdx.foldl (fun cs (y : Value × Nat) => cs.setIfInBounds (off + y.2) y.1) cells = ((ρ x).cells.toList.zipIdx 0).foldl (fun cs (y : Value × Nat) => cs.setIfInBounds (off + y.2) y.1) cells := by
          rw [← Array.foldl_toList, Array.toList_zipIdx]
        obtain ⟨cells', h5, h6⟩ := ih ps' _ l' _ e2 (by simpa using this) h3
        refine ⟨cells', ?_, h6⟩
        rw [← h5]
        exact congrArg (fun c => Instr.fill place c _) hfold
      · cases h3
    · cases h1

theorem sound_build {t : TypeId} {parts : Array (Nat × Operand)} {ao : AOp} (hc : cop P (.build t parts) = some ao) (hev : ∀ x, Rep w g h.length (ev x) (ρ x)) (hv : vop h ev ao K) :
    VOk P w g h.length (do pure (.value (← Instr.build t (parts.map fun (i, x) => (i, ρ x))))) K := by
  have fin : ∀ (cs : List AV) (cells' : Array Value), P.built t (parts.map fun (i, x) => (i, ρ x)).toList = some cells' → Reps w g h.length cs cells'.toList → K (.agg cs) →
      VOk P w g h.length (do pure (.value (← Instr.build t (parts.map fun (i, x) => (i, ρ x))))) K := by
    intro cs cells' hb hr hk
    exact VOk.of (run_build w t _ cells' hb) (by simp only [Rep]; exact ⟨_, rfl, hr⟩) (NoOwn.agg _) hk
  simp only [cop] at hc
  split at hc
  · rename_i it n e hi hu
    split at hc
    · rename_i z ie hz hie
      split at hc
      · rename_i l hl
        cases hc
        simp only [vop] at hv
        split at hv
        · rename_i cs hcs
          obtain ⟨cells', h1, h2⟩ := fill_reps (n := h.length) hev _ _ _ _ z.cells hl (Reps.ofCells _) hcs
          exact fin cs cells' (by simp only [Program.built, hi, hu, hz, hie]; simpa using h1) h2 hv
        · exact hv.elim
      · cases hc
    · cases hc
  · rename_i it fields hi hu
    split at hc
    · rename_i z places hz hp
      split at hc
      · rename_i l hl
        cases hc
        simp only [vop] at hv
        split at hv
        · rename_i cs hcs
          obtain ⟨cells', h1, h2⟩ := fill_reps (n := h.length) hev _ _ _ _ z.cells hl (Reps.ofCells _) hcs
          exact fin cs cells' (by simp only [Program.built, hi, hu, hz, hp]; simpa using h1) h2 hv
        · exact hv.elim
      · cases hc
    · cases hc
  · cases hc

theorem sound_move {x : Operand} (hev : ∀ x, Rep w g h.length (ev x) (ρ x)) (hno : ∀ x, NoOwn (ev x)) (hv : vop h ev (.move x) K) : VOk P w g h.length (pure (.value (ρ x))) K :=
  ⟨ρ x, ev x, rfl, hev x, hno x, hv⟩

theorem sound_pick {c a b : Operand} (hev : ∀ x, Rep w g h.length (ev x) (ρ x)) (hno : ∀ x, NoOwn (ev x)) (hv : vop h ev (.pick c a b) K) :
    VOk P w g h.length (do pure (.value (if ← asBool (ρ c) then ρ a else ρ b))) K := by
  have hc := hev c
  simp only [vop] at hv
  split at hv
  · rename_i t e1
    rw [e1, Rep.lit_iff] at hc
    rw [hc]
    cases t
    · exact ⟨ρ b, ev b, rfl, hev b, hno b, hv⟩
    · exact ⟨ρ a, ev a, rfl, hev a, hno a, hv⟩
  · exact hv.elim

theorem sound_nilCheck {x : Operand} {o : Oper} (ho : o.op = .nilCheck x) (hev : ∀ x, Rep w g h.length (ev x) (ρ x)) (hv : vop h ev (.nilCheck x) K) : VOk P w g h.length (execOp ρ o) K := by
  have hc := hev x
  simp only [vop] at hv
  unfold execOp
  simp only [ho]
  split at hv
  · rename_i id off e1
    rw [e1] at hc; have hc' := hc; simp only [Rep] at hc'; rw [hc'.1]; rw [hc'.1] at hc
    exact ⟨_, _, rfl, hc, NoOwn.ref _ _, hv⟩
  · rename_i cs e1
    rw [e1] at hc; have hc' := hc; simp only [Rep] at hc'; obtain ⟨b, off, vs, hp, _⟩ := hc'; rw [hp]; rw [hp] at hc
    exact ⟨_, _, rfl, hc, NoOwn.cp _, hv⟩
  · rename_i f a b e1
    rw [e1] at hc; have hc' := hc; simp only [Rep] at hc'; obtain ⟨fa, ca, hp, _⟩ := hc'; rw [hp]; rw [hp] at hc
    exact ⟨_, _, rfl, hc, NoOwn.fn _ _ _, hv⟩
  · rename_i t v e1
    rw [e1] at hc; have hc' := hc; simp only [Rep] at hc'; obtain ⟨y, hp, _⟩ := hc'; rw [hp]; rw [hp] at hc
    exact ⟨_, _, rfl, hc, NoOwn.ifc _ _, hv⟩
  · exact hv.elim

theorem sound_extract {x : Operand} {i : Nat} (hev : ∀ x, Rep w g h.length (ev x) (ρ x)) (hv : vop h ev (.extract x i) K) :
    VOk P w g h.length (do pure (.value (← Instr.extract (ρ x) i))) K := by
  have hc := hev x
  simp only [vop] at hv
  split at hv
  · rename_i vs e1
    rw [e1] at hc
    simp only [Rep] at hc
    obtain ⟨a, hp, hR⟩ := hc
    rw [hp]
    split at hv
    · rename_i av hav
      obtain ⟨v, h1, h2⟩ := hR.get _ _ hav
      exact VOk.of (by simp [Instr.extract, show a[i]? = some v by simpa using h1]) h2.strip (NoOwn.strip _) hv
    · exact hv.elim
  · exact hv.elim

theorem sound_mkIface {t : TypeId} {d : TypeDesc} {x : Operand} (hu : P.underlying t = some d) (hd : ∀ m, d ≠ .interface m) (hev : ∀ x, Rep w g h.length (ev x) (ρ x)) (hv : vop h ev (.mkIface t x) K) :
    VOk P w g h.length (do pure (.value (← Instr.makeInterface t (ρ x)))) K := by
  simp only [vop] at hv
  refine VOk.of (v := .iface t (ρ x)) ?_ (by simp only [Rep]; exact ⟨_, rfl, hev x⟩) (NoOwn.ifc _ _) hv
  simp only [Instr.makeInterface, Sem.run_bind, run_und hu, Result.andThen_ok]
  rfl

theorem Reps.evs {n : Nat} (hev : ∀ x, Rep w g n (ev x) (ρ x)) : ∀ (l : List Operand), Reps w g n (l.map ev) (l.map ρ)
  | [] => by simp [Reps]
  | x :: l => Reps.cons'.2 ⟨hev x, Reps.evs hev l⟩

theorem sound_mkFunc {f : Fn} {first caps : Array Operand} (hev : ∀ x, Rep w g h.length (ev x) (ρ x)) (hv : vop h ev (.mkFunc f first.toList caps.toList) K) :
    VOk P w g h.length (do pure (.value (← Instr.makeFunc f (first.map ρ) (caps.map ρ)))) K := by
  simp only [vop] at hv
  refine VOk.of (v := .func f (first.map ρ) (caps.map ρ)) rfl ?_ (NoOwn.fn _ _ _) hv
  simp only [Rep]
  exact ⟨_, _, rfl, by simpa using Reps.evs hev first.toList, by simpa using Reps.evs hev caps.toList⟩

theorem sound_cap {args : Array Operand} {argTypes : Array TypeId} {ao : AOp} {type : TypeId} (hc : cop P (.call { callee := .builtin .cap, args, argTypes }) = some ao) (hev : ∀ x, Rep w g h.length (ev x) (ρ x)) (hv : vop h ev ao K) :
    VOk P w g h.length (do let d ← resolve ρ { callee := .builtin .cap, args, argTypes } type; invoke d.target d.args) K := by
  simp only [cop] at hc
  split at hc
  · rename_i x t hx ht
    have hc2 := hev x
    split at hc <;> simp at hc
    rename_i e hu
    subst hc
    simp only [vop] at hv
    split at hv
    · rename_i id off len cap e1
      rw [e1] at hc2
      simp only [Rep] at hc2
      refine ⟨_, _, ?_, Rep.lit_iff.2 rfl, NoOwn.lit _, hv⟩
      simp [resolve, invoke, builtin, Builtin.cap_, hx, ht, run_und hu, hc2.1, goInt]
    · rename_i es e1
      rw [e1] at hc2
      simp only [Rep] at hc2
      obtain ⟨base, len, cap, hp, hlen, _, hf, _⟩ := hc2
      have := hf trivial
      refine ⟨_, _, ?_, Rep.lit_iff.2 rfl, NoOwn.lit _, hv⟩
      simp [resolve, invoke, builtin, Builtin.cap_, hx, ht, run_und hu, hp, goInt, hlen, this]
    · exact hv.elim
  · cases hc

theorem sound_len {args : Array Operand} {argTypes : Array TypeId} {ao : AOp} {type : TypeId} (hh : HeapOk w g h) (hc : cop P (.call { callee := .builtin .len, args, argTypes }) = some ao) (hev : ∀ x, Rep w g h.length (ev x) (ρ x)) (hv : vop h ev ao K) :
    VOk P w g h.length (do let d ← resolve ρ { callee := .builtin .len, args, argTypes } type; invoke d.target d.args) K := by
  simp only [cop] at hc
  split at hc
  · rename_i x t hx ht
    have hc2 := hev x
    split at hc <;> simp at hc <;> subst hc
    · rename_i hu
      simp only [vop] at hv
      split at hv
      · rename_i s e1
        rw [e1, Rep.lit_iff] at hc2
        refine ⟨_, _, ?_, Rep.lit_iff.2 rfl, NoOwn.lit _, hv⟩
        simp [resolve, invoke, builtin, Builtin.len_, hx, ht, run_und hu, hc2, goInt]
      · exact hv.elim
    · rename_i e hu
      simp only [vop] at hv
      split at hv
      · rename_i c es e1
        rw [e1] at hc2
        simp only [Rep] at hc2
        obtain ⟨base, len, cap, hp, hlen, _⟩ := hc2
        refine ⟨_, _, ?_, Rep.lit_iff.2 rfl, NoOwn.lit _, hv⟩
        simp [resolve, invoke, builtin, Builtin.len_, hx, ht, run_und hu, hp, goInt, hlen]
      · rename_i c es e1 l e2
        rw [e2] at hc2
        simp only [Rep] at hc2
        refine ⟨_, _, ?_, Rep.lit_iff.2 rfl, NoOwn.lit _, hv⟩
        simp [resolve, invoke, builtin, Builtin.len_, hx, ht, run_und hu, hc2.1, goInt]
      · exact hv.elim
    · rename_i k e hu
      simp only [vop] at hv
      split at hv
      · rename_i id e1
        rw [e1] at hc2
        simp only [Rep] at hc2
        split at hv
        · rename_i kk es hl
          obtain ⟨en, clock, q1, q2, q3, q4, _⟩ := hh.map id kk es hl
          have hlen : en.size = es.length := by simpa using congrArg List.length q3
          refine ⟨_, _, ?_, Rep.lit_iff.2 rfl, NoOwn.lit _, hv⟩
          simp [resolve, invoke, builtin, Builtin.len_, hx, ht, run_und hu, hc2.1, goInt, run_getObj q1, hlen]
        · exact hv.elim
      · exact hv.elim
  · cases hc

def isV : AOp → Bool
  | .take _ | .box _ | .alloc _ | .store _ _ _ | .append _ _ _ _ _ | .toBytes _ | .buildSlice _ _ _ _ _ | .makeSlice _ _ _ _ _ _ | .call _ _ | .panic _ | .conv8 _ | .boxB _ _ _ | .makeMap _ | .mapSet _ _ _ _ | .appendO _ _ _ _ _ | .clearS _ _ _ | .appendZ _ _ _ _ _ | .eqNil _ _ => false
  | _ => true

theorem sound_minmax {mx : Bool} {x y : Operand} {args : Array Operand} {argTypes : Array TypeId} {type : TypeId} {dst pos after guard} (ha : args.toList = [x, y]) (hev : ∀ x, Rep w g h.length (ev x) (ρ x)) (hv : vop h ev (.minmax mx x y) K) :
    VOk P w g h.length (execOp ρ { dst := dst, op := .call { callee := .builtin (if mx then .max else .min), args, argTypes }, type, pos, after, guard }) K := by
  have ha' : args = #[x, y] := Array.ext' (by simpa using ha)
  subst ha'
  have hx := hev x
  have hy := hev y
  simp only [vop] at hv
  split at hv
  · rename_i k a k' b e1 e2
    rw [e1, Rep.lit_iff] at hx
    rw [e2, Rep.lit_iff] at hy
    refine ⟨_, _, ?_, Rep.lit_iff.2 rfl, NoOwn.lit _, hv⟩
    unfold execOp
    cases mx <;> simp [resolve, invoke, builtin, Builtin.max_, Builtin.min_, Builtin.max2, Builtin.min2, hx, hy]
  · exact hv.elim

theorem vop_sound {o : Oper} {ao : AOp} (hc : cop P o.op = some ao) (hV : isV ao = true) (hh : HeapOk w g h) (hev : ∀ x, Rep w g h.length (ev x) (ρ x)) (hno : ∀ x, NoOwn (ev x))
    (hv : vop h ev ao K) : VOk P w g h.length (execOp ρ o) K := by
  obtain ⟨dst, op, type, pos, after, guard⟩ := o
  simp only at hc
  cases op with
  | move x => simp only [cop] at hc; cases hc; exact sound_move hev hno hv
  | assign x => simp only [cop] at hc; cases hc; exact sound_move hev hno hv
  | pick c a b => simp only [cop] at hc; cases hc; exact sound_pick hev hno hv
  | nilCheck x => simp only [cop] at hc; cases hc; exact sound_nilCheck rfl hev hv
  | binOp op t x y ty =>
    simp only [cop] at hc
    split at hc
    · split at hc <;> cases hc <;> cases hV
    split at hc
    · rename_i ht
      cases op <;> simp at hc <;> subst hc
      · exact sound_eqB ht rfl hev hv
      · exact sound_eqB ht rfl hev hv
    · split at hc
      · cases hc; exact sound_bin hev hv
      · split at hc
        · rename_i kind hk
          cases op <;> simp at hc <;> subst hc
          · exact sound_eqN hk rfl hev hv
          · exact sound_eqN hk rfl hev hv
        · split at hc
          · rename_i ks hk
            cases op <;> simp at hc <;> subst hc
            · exact sound_eqS hk rfl hev hv
            · exact sound_eqS hk rfl hev hv
          · cases hc
  | unOp op t x => simp only [cop] at hc; cases hc; exact sound_un hev hv
  | convert src dst x =>
    simp only [cop] at hc
    split at hc
    · rename_i h1 h2; cases hc; exact sound_conv h1 h2 (hev _) hv
    · rename_i h1 h2; cases hc; exact sound_convS h1 h2 (hev _) hv
    · rename_i h1 h2
      split at hc
      · rename_i h3; cases hc; exact sound_toStr h1 h2 h3 (hev _) hv
      · cases hc
    · split at hc
      · cases hc; cases hV
      · cases hc
    · split at hc
      · split at hc <;> cases hc; cases hV
      · cases hc
    · cases hc
  | slice t x lo hi mx =>
    cases mx with
    | some mx =>
      simp only [cop] at hc
      split at hc
      · rename_i hu
        split at hc
        · rename_i hi'; cases hc; exact sound_slice3 hu hi' hev hv
        · cases hc
      · cases hc
    | none =>
      simp only [cop] at hc
      split at hc
      · rename_i hu; cases hc; exact sound_sliceS hu hev hv
      · rename_i hu
        split at hc
        · rename_i hi'; cases hc; exact sound_slice hu hi' hev hv
        · cases hc
      · cases hc
  | fieldAddr s x f =>
    simp only [cop] at hc
    split at hc
    · rename_i hu
      split at hc
      · rename_i hf
        split at hc
        · rename_i hi
          split at hc
          · cases hc
          · rename_i hz; cases hc; exact sound_fieldAddr hu hf hi hz (hev _) hv
        · cases hc
      · cases hc
    · cases hc
  | field s x f =>
    simp only [cop] at hc
    split at hc
    · rename_i hu
      split at hc
      · rename_i hf
        split at hc
        · rename_i hn; cases hc; exact sound_field hu hf hn (hev _) hv
        · cases hc
      · cases hc
    · cases hc
  | indexAddr t x i =>
    simp only [cop] at hc
    split at hc
    · rename_i hu
      split at hc
      · rename_i hi; cases hc; exact sound_indexAddr hu hi hev hv
      · cases hc
    · rename_i hu
      split at hc
      · rename_i hi; cases hc; exact sound_indexAddrArr hu hi hev hv
      · cases hc
    · cases hc
  | index t x i =>
    simp only [cop] at hc
    split at hc
    · rename_i hu; cases hc; exact sound_indexS hu hev hv
    · rename_i hu
      split at hc
      · rename_i hi hn; cases hc; exact sound_indexArr hu hi hn hev hv
      · cases hc
    · cases hc
  | load t x =>
    simp only [cop] at hc
    split at hc
    · rename_i hn; cases hc; exact sound_load hn (hev _) hh hv
    · cases hc
  | store t x y => simp only [cop] at hc; split at hc <;> cases hc; cases hV
  | extract x i => simp only [cop] at hc; cases hc; exact sound_extract hev hv
  | makeInterface t x =>
    simp only [cop] at hc
    split at hc
    · cases hc
    · rename_i d hd hu; cases hc; exact sound_mkIface hu (fun m hm => hd m hm) hev hv
    · cases hc
  | makeFunc f first caps => simp only [cop] at hc; cases hc; exact sound_mkFunc hev hv
  | build t parts => exact sound_build hc hev hv
  | box t x => simp only [cop] at hc; cases hc; cases hV
  | alloc t =>
    simp only [cop] at hc
    split at hc
    · split at hc <;> cases hc; cases hV
    · cases hc
  | buildSlice t len parts =>
    simp only [cop] at hc
    split at hc
    · split at hc
      · split at hc <;> cases hc; cases hV
      · cases hc
    · cases hc
  | makeSlice t l c =>
    simp only [cop] at hc
    split at hc
    · split at hc
      · split at hc <;> cases hc; cases hV
      · cases hc
    · cases hc
  | panic x => simp only [cop] at hc; cases hc; cases hV
  | typeAssert x xt t ok =>
    simp only [cop] at hc
    split at hc
    · cases hc
    · rename_i d inf hn hu hi
      split at hc
      · rename_i hz; cases hc; exact sound_typeAssert hu (fun m hm => by subst hm; exact hn _ rfl) hi hz hev hv
      · cases hc
    · cases hc
  | makeMap t r =>
    cases r with
    | some _ => simp [cop] at hc
    | none =>
      simp only [cop] at hc
      split at hc
      · split at hc <;> cases hc; cases hV
      · cases hc
  | lookup t x i ok =>
    simp only [cop] at hc
    split at hc
    · rename_i hu
      split at hc
      · rename_i hk hi
        split at hc
        · rename_i hz; cases hc; exact sound_lookup hu hk hi hz hev hh hv
        · cases hc
      · cases hc
    · cases hc
  | mapUpdate t m k x =>
    simp only [cop] at hc
    split at hc
    · split at hc <;> cases hc; cases hV
    · cases hc
  | insert t m k x =>
    simp only [cop] at hc
    split at hc
    · split at hc <;> cases hc; cases hV
    · cases hc
  | call c =>
    obtain ⟨callee, args, argTypes⟩ := c
    cases callee with
    | value f => simp only [cop] at hc; cases hc; cases hV
    | invoke r m => simp [cop] at hc
    | builtin b =>
      cases b <;> try (simp [cop] at hc; done)
      case len => exact sound_len hh hc hev hv
      case cap => exact sound_cap hc hev hv
      case clear =>
        simp only [cop] at hc
        split at hc
        · split at hc
          · split at hc
            · split at hc <;> cases hc; cases hV
            · cases hc
          · cases hc
        · cases hc
      case max => simp only [cop] at hc; split at hc <;> cases hc; rename_i ha; exact sound_minmax (mx := true) ha hev hv
      case min => simp only [cop] at hc; split at hc <;> cases hc; rename_i ha; exact sound_minmax (mx := false) ha hev hv
      case append =>
        simp only [cop] at hc
        split at hc
        · split at hc
          · split at hc
            · split at hc <;> cases hc; cases hV
            · split at hc <;> cases hc; cases hV
            · split at hc <;> cases hc; cases hV
            · cases hc
          · cases hc
        · cases hc
  | _ => simp [cop] at hc

end Go.Abs

namespace Go.Abs
open Go Go.RowKit

theorem Stable.trans {w0 g0 n0 w g n w' g'} (h : Stable w0 g0 n0 w g) (h' : Stable w g n w' g') (hn : n0 ≤ n) : Stable w0 g0 n0 w' g' where
  size := Nat.le_trans h.size h'.size
  os := h'.os.trans h.os
  output := h'.output.trans h.output
  tape := h'.tape.trans h.tape
  blk := fun b hb ho => by
    rw [h'.blk b (Nat.lt_of_lt_of_le hb h.size) (fun off => (ho off).imp (h.own b off hb).1 (h.own b off hb).2)]
    exact h.blk b hb ho
  cel := fun b c e fr hc hx => by
    have hb : b < w0.heap.size := by
      rcases Nat.lt_or_ge b w0.heap.size with h | h
      · exact h
      · simp [Array.getElem?_eq_none h] at hc
    obtain ⟨c1, fr1, h1, h2, h3⟩ := h.cel b c e fr hc hx
    obtain ⟨c2, fr2, h4, h5, h6⟩ := h'.cel b c1 e fr1 h1 (let ⟨off, ho⟩ := hx; ⟨off, ho.imp (h.own b off hb).1 (h.own b off hb).2⟩)
    exact ⟨c2, fr2, h4, h5.trans h2, fun off ho => ⟨(h6 off (ho.imp (h.own b off hb).1 (h.own b off hb).2)).1.trans (h3 off ho).1, (h6 off (ho.imp (h.own b off hb).1 (h.own b off hb).2)).2.trans (h3 off ho).2⟩⟩
  own := fun b off hb => ⟨fun ho => (h'.own b off (Nat.lt_of_lt_of_le hb h.size)).1 ((h.own b off hb).1 ho), fun ho => (h'.own b off (Nat.lt_of_lt_of_le hb h.size)).2 ((h.own b off hb).2 ho)⟩
  loc := fun id hi => (h'.loc id (Nat.lt_of_lt_of_le hi hn)).trans (h.loc id hi)

def KeepsSp (w : World) (g : Gh) (w' : World) (g' : Gh) (s : Slot) : Prop :=
  ∀ b off u, g.own b off = .sp s → w.cell? ⟨b, off, none⟩ = some u → w.frozen? ⟨b, off, none⟩ = false →
    g'.own b off = .sp s ∧ (∃ u', w'.cell? ⟨b, off, none⟩ = some u') ∧ w'.frozen? ⟨b, off, none⟩ = false

def KeepsBuf (w : World) (g : Gh) (w' : World) (g' : Gh) (id : Nat) : Prop :=
  ∀ b j, b < w.heap.size → (∀ off, g.own b off = .sp (.cell id j)) → w'.heap[b]? = w.heap[b]? ∧ ∀ off, g'.own b off = .sp (.cell id j)

theorem buf_keep {w w' : World} {te : TypeId} {v : Value} {n : Nat} {xs : List Value} (h : w.ownsRowF 0 te 1 v n xs) (hb : ∀ k, v.ownBlock = some k → w'.heap[k]? = w.heap[k]?) : w'.ownsRowF 0 te 1 v n xs := by
  refine ⟨h.1, ?_⟩
  rcases h.2 with hn | ⟨g, cap, cur, fz, rfl, h1, h2, rest⟩
  · exact .inl hn
  · exact .inr ⟨g, cap, cur, fz, rfl, h1, by rw [hb g rfl]; exact h2, rest⟩

theorem TmpsOk.step {w g n tmps ts w' g' n'} (h : TmpsOk w g n tmps ts) (hl : Later w g n w' g' n') (hs : ∀ i, KeepsSp w g w' g' (.tmp i)) : TmpsOk w' g' n' tmps ts :=
  fun i => ⟨(h i).1.later hl, (h i).2.later hl (hs i)⟩

theorem CellsOk.step {w g n id l vs e w' g' n'} (h : CellsOk w g n id l vs e) (hid : id < n) (hl : Later w g n w' g' n') (hb : w'.heap[g.loc id]? = w.heap[g.loc id]?)
    (ho : ∀ off, g'.own (g.loc id) off = g.own (g.loc id) off) (hs : ∀ j, KeepsSp w g w' g' (.cell id j)) (hk : KeepsBuf w g w' g' id) : CellsOk w' g' n' id l vs e where
  blk := by rw [hl.loc id hid, hb]; exact h.blk
  own := fun off => by rw [hl.loc id hid, ho]; exact h.own off
  size := h.size
  rep := fun j av hj => let ⟨v, h1, h2, h3⟩ := h.rep j av hj; ⟨v, h1, h2.later hl, h3.later hl (hs j)⟩
  bp := fun e' h' => by rw [hl.loc id hid]; exact h.bp e' h'
  buf := fun j te b hj => let ⟨v, h1, h2, h3⟩ := h.buf j te b hj
    ⟨v, h1, buf_keep h2 (fun k hv => (hk k j (h2.lt k hv).2 (h3 k hv)).1), fun k hv => (hk k j (h2.lt k hv).2 (h3 k hv)).2⟩

theorem GlOk.later {E w g w' g'} (h : GlOk E w g) (hl : Later w g 0 w' g' 0) : GlOk E w' g' :=
  fun i cs hi => let ⟨vs, h1, h2, ⟨e, fr, h3⟩, h4⟩ := h i cs hi; let ⟨h5, h6⟩ := hl.blk i _ h3 h4; ⟨vs, h1.later hl, Reps.later hl _ _ h2, ⟨e, fr, h5⟩, h6⟩

theorem Later.to_zero {w g n w' g' n'} (h : Later w g n w' g' n') : Later w g 0 w' g' 0 := ⟨Nat.le_refl _, (fun _ hi => absurd hi (Nat.not_lt_zero _)), h.com, h.blk⟩

structure Grown (w : World) (g : Gh) (n : Nat) (w' : World) (g' : Gh) : Prop where
  size : w.heap.size ≤ w'.heap.size
  os : w'.os = w.os
  output : w'.output = w.output
  tape : w'.tape = w.tape
  blk : ∀ b, b < w.heap.size → w'.heap[b]? = w.heap[b]?
  own : ∀ b off, b < w.heap.size → g'.own b off = g.own b off
  loc : ∀ id, id < n → g'.loc id = g.loc id
  gok : GOk w' g'

theorem Grown.refl {w g n} (h : GOk w g) : Grown w g n w g := ⟨Nat.le_refl _, rfl, rfl, rfl, fun _ _ => rfl, fun _ _ _ => rfl, fun _ _ => rfl, h⟩

theorem Grown.cell {w g n w' g'} (h : Grown w g n w' g') {b off u} (hc : w.cell? ⟨b, off, none⟩ = some u) : w'.cell? ⟨b, off, none⟩ = some u := by
  have hb := World.block_lt_of_cell? w _ hc
  rw [World.cell?_of_block (w := w) (h.blk b hb)]
  exact hc

theorem Grown.later {w g n w' g' n'} (h : Grown w g n w' g') (hn : n ≤ n') : Later w g n w' g' n' where
  le := hn
  loc := h.loc
  blk := fun b o hb ho => by
    have hlt : b < w.heap.size := by
      rcases Nat.lt_or_ge b w.heap.size with h' | h'
      · exact h'
      · simp [Array.getElem?_eq_none h'] at hb
    exact ⟨by rw [h.blk b hlt]; exact hb, fun off => by rw [h.own b off hlt]; exact ho off⟩
  com := fun b off u hc ho => ⟨h.cell hc, by rw [h.own b off (World.block_lt_of_cell? w _ hc)]; exact ho⟩

theorem Grown.keepsSp {w g n w' g'} (h : Grown w g n w' g') (s : Slot) : KeepsSp w g w' g' s := fun b off u ho hc hf => by
  have hb := World.block_lt_of_cell? w _ hc
  exact ⟨by rw [h.own b off hb]; exact ho, ⟨u, h.cell hc⟩, by rw [World.frozen?_of_block (w := w) (h.blk b hb)]; exact hf⟩

theorem Grown.stable {w g n w' g'} (h : Grown w g n w' g') : Stable w g n w' g' where
  size := h.size
  os := h.os
  output := h.output
  tape := h.tape
  blk := fun b hb _ => h.blk b hb
  cel := fun b c e fr hc _ => by
    have hb : b < w.heap.size := by
      rcases Nat.lt_or_ge b w.heap.size with h | h
      · exact h
      · simp [Array.getElem?_eq_none h] at hc
    exact ⟨c, fr, by rw [h.blk b hb]; exact hc, rfl, fun _ _ => ⟨rfl, rfl⟩⟩
  own := fun b off hb => ⟨fun ho => by rw [h.own b off hb]; exact ho, fun ho => by rw [h.own b off hb]; exact ho⟩
  loc := h.loc

theorem lt_of_heap {w : World} {b : Nat} {o : Obj} (h : w.heap[b]? = some o) : b < w.heap.size := by
  rcases Nat.lt_or_ge b w.heap.size with h' | h'
  · exact h'
  · simp [Array.getElem?_eq_none h'] at h

theorem Grown.cells {w g n w' g' n' id l vs e} (h : Grown w g n w' g') (hn : n ≤ n') (hc : CellsOk w g n id l vs e) (hid : id < n) : CellsOk w' g' n' id l vs e :=
  have hb := lt_of_heap hc.blk
  hc.step hid (h.later hn) (h.blk _ hb) (fun off => h.own _ off hb) (fun j => h.keepsSp _) (fun b j hbl ho => ⟨h.blk b hbl, fun off => by rw [h.own b off hbl]; exact ho off⟩)

theorem MapOk.step {w g n id kk es w' g' n'} (h : MapOk w g n id kk es) (hid : id < n) (hl : Later w g n w' g' n') (hb : w'.heap[g.loc id]? = w.heap[g.loc id]?)
    (ho : ∀ off, g'.own (g.loc id) off = g.own (g.loc id) off) : MapOk w' g' n' id kk es := by
  obtain ⟨en, clock, h1, h2, h3, h4, h5⟩ := h
  exact ⟨en, clock, by rw [hl.loc id hid, hb]; exact h1, fun off => by rw [hl.loc id hid, ho]; exact h2 off, h3, Reps.later hl _ _ h4, h5⟩

theorem Grown.map {w g n w' g' n' id kk es} (h : Grown w g n w' g') (hn : n ≤ n') (hc : MapOk w g n id kk es) (hid : id < n) : MapOk w' g' n' id kk es := by
  have hb : g.loc id < w.heap.size := by obtain ⟨en, clock, h1, _⟩ := hc; exact lt_of_heap h1
  exact hc.step hid (h.later hn) (h.blk _ hb) (fun off => h.own _ off hb)

theorem Grown.heapOk {w g w' g' h h'} (hg : Grown w g h.length w' g') (hh : HeapOk w g h) (hpre : h <+: h')
    (hnew : ∀ id o, h.length ≤ id → h'[id]? = some o → ObjOk w' g' h'.length id o) : HeapOk w' g' h' := by
  intro id o hl
  rcases Nat.lt_or_ge id h.length with hlt | hge
  · have : h[id]? = some o := by
      obtain ⟨t, rfl⟩ := hpre
      rw [List.getElem?_append_left hlt] at hl
      exact hl
    have hc := hh id o this
    cases o with
    | cells l => obtain ⟨vs, e, hc⟩ := hc; exact ⟨vs, e, hg.cells hpre.length_le hc hlt⟩
    | map kk es => exact hg.map hpre.length_le hc hlt
    | gone => exact trivial
  · exact hnew id o hge hl

theorem RA.grow {E B σ a w g w' g' h'} (h : RA E B σ a w g) (hg : Grown w g σ.heap.length w' g') (hpre : σ.heap <+: h')
    (hnew : ∀ id o, σ.heap.length ≤ id → h'[id]? = some o → ObjOk w' g' h'.length id o) : RA E B { σ with heap := h' } a w' g' where
  nt := h.nt
  gok := hg.gok
  gl := h.gl.later (hg.later hpre.length_le).to_zero
  tmps := h.tmps.step (hg.later hpre.length_le) (fun i => hg.keepsSp _)
  heap := hg.heapOk h.heap hpre hnew
  st := h.st.trans hg.stable h.n0
  n0 := Nat.le_trans h.n0 hpre.length_le
  defers := h.defers

theorem RA.grow' {E B σ a w g w' g'} (h : RA E B σ a w g) (hg : Grown w g σ.heap.length w' g') : RA E B σ a w' g' :=
  h.grow hg (List.prefix_refl _) (fun id l hid hl => by rw [List.getElem?_eq_none hid] at hl; cases hl)

theorem RA.newOf {E B σ a w g} (h : RA E B σ a w g) (o : Obj) (ao : AObj) (hk : ∀ w' g', Later w g σ.heap.length w' g' (σ.heap.length + 1) → g'.loc σ.heap.length = w.heap.size → w'.heap[w.heap.size]? = some o → (∀ off, g'.own w.heap.size off = .obj σ.heap.length) →
      ObjOk w' g' (σ.heap.length + 1) σ.heap.length ao) : ∃ g', RA E B { σ with heap := σ.heap ++ [ao] } a (w.alloc o) g' ∧ g'.loc σ.heap.length = w.heap.size := by
  have hg : Grown w g σ.heap.length (w.alloc o) ({ own := fun b' off => if b' = w.heap.size then .obj σ.heap.length else g.own b' off, loc := fun i => if i = σ.heap.length then w.heap.size else g.loc i }) := {
    size := by simp
    os := rfl
    output := rfl
    tape := rfl
    blk := fun b hb => by show (w.heap.push o)[b]? = _; rw [Array.getElem?_push, if_neg (by omega)]
    own := fun b off hb => by simp only; rw [if_neg (by omega)]
    loc := fun id hi => by simp only; rw [if_neg (by omega)]
    gok := fun b off ho => by
      simp only at ho
      split at ho
      · simp_all
      · have := h.gok b off ho; simp; omega }
  refine ⟨_, h.grow hg (List.prefix_append _ _) fun id o' hid hl => ?_, by simp⟩
  have hid' : id = σ.heap.length := by
    rcases Nat.lt_or_ge σ.heap.length id with h' | h'
    · rw [List.getElem?_eq_none (by simp; omega)] at hl; cases hl
    · omega
  subst hid'
  rw [List.getElem?_append_right (Nat.le_refl _)] at hl
  simp at hl
  subst hl
  rw [List.length_append]
  exact hk _ _ (hg.later (by simp)) (by simp) (by show (w.heap.push o)[w.heap.size]? = _; simp) (by simp)

def Gh.new (g : Gh) (b : Nat) (o : Nat → Own) : Gh := { g with own := fun b' off => if b' = b then o off else g.own b' off }
def Gh.newObj (g : Gh) (b id : Nat) : Gh := { own := fun b' off => if b' = b then .obj id else g.own b' off, loc := fun i => if i = id then b else g.loc i }

theorem grown_alloc {w g n} (hk : GOk w g) (o : Obj) (f : Nat → Own) : Grown w g n (w.alloc o) (g.new w.heap.size f) where
  size := by simp
  os := rfl
  output := rfl
  tape := rfl
  blk := fun b hb => by show (w.heap.push o)[b]? = _; rw [Array.getElem?_push, if_neg (by omega)]
  own := fun b off hb => by simp only [Gh.new]; rw [if_neg (by omega)]
  loc := fun _ _ => rfl
  gok := fun b off ho => by
    simp only [Gh.new] at ho
    split at ho
    · simp_all
    · have := hk b off ho; simp; omega

theorem grown_allocObj {w g n} (hk : GOk w g) (o : Obj) : Grown w g n (w.alloc o) (g.newObj w.heap.size n) where
  size := by simp
  os := rfl
  output := rfl
  tape := rfl
  blk := fun b hb => by show (w.heap.push o)[b]? = _; rw [Array.getElem?_push, if_neg (by omega)]
  own := fun b off hb => by simp only [Gh.newObj]; rw [if_neg (by omega)]
  loc := fun id hi => by simp only [Gh.newObj]; rw [if_neg (by omega)]
  gok := fun b off ho => by
    simp only [Gh.newObj] at ho
    split at ho
    · simp_all
    · have := hk b off ho; simp; omega

theorem heap_alloc_new (w : World) (o : Obj) : (w.alloc o).heap[w.heap.size]? = some o := by show (w.heap.push o)[w.heap.size]? = _; simp

theorem RA.newObj {E B σ a w g} (h : RA E B σ a w g) {l : List AV} {vs : Array Value} {e : TypeId} (hr : Reps w g σ.heap.length l vs.toList) (hno : ∀ av ∈ l, NoOwn av) :
    RA E B { σ with heap := σ.heap ++ [.cells l] } a (w.alloc (.cells vs e)) (g.newObj w.heap.size σ.heap.length) ∧
      (g.newObj w.heap.size σ.heap.length).loc σ.heap.length = w.heap.size := by
  have hg := grown_allocObj (n := σ.heap.length) h.gok (.cells vs e)
  refine ⟨h.grow hg (List.prefix_append _ _) fun id l' hid hl => ?_, by simp [Gh.newObj]⟩
  have hid' : id = σ.heap.length := by
    rcases Nat.lt_or_ge σ.heap.length id with h' | h'
    · rw [List.getElem?_eq_none (by simp; omega)] at hl; cases hl
    · omega
  subst hid'
  rw [List.getElem?_append_right (Nat.le_refl _)] at hl
  simp at hl
  subst hl
  refine ⟨vs, e, ?_, ?_, by simpa using hr.length, ?_, ?_, ?_⟩
  · simp only [Gh.newObj, if_true]; exact heap_alloc_new _ _
  · intro off; simp [Gh.newObj]
  · intro j av hj
    obtain ⟨v, h1, h2⟩ := hr.get j av hj
    refine ⟨v, by simpa using h1, h2.later (hg.later (by simp)), (hno av (List.mem_of_getElem? hj)).spare⟩
  · intro e' he; exact absurd rfl ((hno _ (List.mem_of_getElem? he)).2.1 _)
  · intro j te b hb; exact absurd rfl ((hno _ (List.mem_of_getElem? hb)).2.2 _ _)

theorem RA.newBld {E B σ a w g} (h : RA E B σ a w g) {l : List AV} {vs : List Value} {e te : TypeId} (hr : Reps w g σ.heap.length l vs) (hno : ∀ av ∈ l, NoOwn av) :
    RA E B { σ with heap := σ.heap ++ [.cells (.bp e :: .buf te [] :: l)] } a (w.alloc (.cells (Value.pointer none :: Value.slice none 0 0 :: vs).toArray e)) (g.newObj w.heap.size σ.heap.length) ∧
      (g.newObj w.heap.size σ.heap.length).loc σ.heap.length = w.heap.size := by
  have hg := grown_allocObj (n := σ.heap.length) h.gok (.cells (Value.pointer none :: Value.slice none 0 0 :: vs).toArray e)
  refine ⟨h.grow hg (List.prefix_append _ _) fun id l' hid hl => ?_, by simp [Gh.newObj]⟩
  have hid' : id = σ.heap.length := by
    rcases Nat.lt_or_ge σ.heap.length id with h' | h'
    · rw [List.getElem?_eq_none (by simp; omega)] at hl; cases hl
    · omega
  subst hid'
  rw [List.getElem?_append_right (Nat.le_refl _)] at hl
  simp at hl
  subst hl
  have hlen := hr.length
  refine ⟨(Value.pointer none :: Value.slice none 0 0 :: vs).toArray, e, ?_, ?_, by simp [hlen], ?_, ?_, ?_⟩
  · simp only [Gh.newObj, if_true]; exact heap_alloc_new _ _
  · intro off; simp [Gh.newObj]
  · intro j av hj
    match j, hj with
    | 0, hj => cases hj; exact ⟨_, rfl, by simp [Rep], trivial⟩
    | 1, hj => cases hj; exact ⟨_, rfl, by simp [Rep], trivial⟩
    | j + 2, hj =>
      simp only [List.getElem?_cons_succ] at hj
      obtain ⟨v, h1, h2⟩ := hr.get j av hj
      exact ⟨v, by simpa using h1, h2.later (hg.later (by simp)), (hno av (List.mem_of_getElem? hj)).spare⟩
  · intro e' he; cases he; exact ⟨rfl, .inl rfl⟩
  · intro j te' b hb
    match j, hb with
    | 1, hb => cases hb; exact ⟨_, rfl, ⟨by simp [Lib.byteCells], .inl ⟨rfl, rfl⟩⟩, fun k hk => by simp [Value.ownBlock] at hk⟩
    | j + 2, hb =>
      simp only [List.getElem?_cons_succ] at hb
      exact absurd rfl ((hno _ (List.mem_of_getElem? hb)).2.2 _ _)

end Go.Abs

namespace Go.Abs
open Go Go.RowKit

def setRow : World → Nat → Nat → List Value → World
  | w, _, _, [] => w
  | w, b, off, v :: vs => setRow (w.setCell ⟨b, off, none⟩ v) b (off + 1) vs

theorem setCell_block (w : World) (b off : Nat) (v : Value) {c : Array Value} {e : TypeId} {fr : Nat × Nat} (h : w.heap[b]? = some (.cells c e fr)) :
    (w.setCell ⟨b, off, none⟩ v).heap[b]? = some (.cells (c.setIfInBounds off v) e fr) := by
  simp [World.setCell, Array.getElem?_modify, h]

theorem setCell_other (w : World) (b off : Nat) (v : Value) (b' : Nat) (h : b' ≠ b) : (w.setCell ⟨b, off, none⟩ v).heap[b']? = w.heap[b']? := by
  simp only [World.setCell, Array.getElem?_modify]
  rw [if_neg (by omega)]

theorem setRow_misc : ∀ (vs : List Value) (w : World) (b off : Nat), (setRow w b off vs).os = w.os ∧ (setRow w b off vs).output = w.output ∧ (setRow w b off vs).tape = w.tape ∧
    (setRow w b off vs).heap.size = w.heap.size ∧ ∀ b', b' ≠ b → (setRow w b off vs).heap[b']? = w.heap[b']?
  | [], w, b, off => ⟨rfl, rfl, rfl, rfl, fun _ _ => rfl⟩
  | v :: vs, w, b, off => by
    obtain ⟨h1, h2, h3, h4, h5⟩ := setRow_misc vs (w.setCell ⟨b, off, none⟩ v) b (off + 1)
    exact ⟨h1, h2, h3, by rw [setRow, h4]; simp, fun b' hb' => by rw [setRow, h5 b' hb']; exact setCell_other w b off v b' hb'⟩

theorem setRow_block : ∀ (vs : List Value) (w : World) (b off : Nat) (c : Array Value) (e : TypeId) (fr : Nat × Nat), w.heap[b]? = some (.cells c e fr) → off + vs.length ≤ c.size →
    ∃ c', (setRow w b off vs).heap[b]? = some (.cells c' e fr) ∧ c'.size = c.size ∧ (∀ j, j < off ∨ off + vs.length ≤ j → c'[j]? = c[j]?) ∧ (∀ j, j < vs.length → c'[off + j]? = vs[j]?)
  | [], w, b, off, c, e, fr, h, _ => ⟨c, h, rfl, fun _ _ => rfl, fun j hj => by simp at hj⟩
  | v :: vs, w, b, off, c, e, fr, h, hle => by
    simp only [List.length_cons] at hle
    obtain ⟨c', h1, h2, h3, h4⟩ := setRow_block vs _ b (off + 1) _ e fr (setCell_block w b off v h) (by simp; omega)
    refine ⟨c', h1, by simpa using h2, fun j hj => ?_, fun j hj => ?_⟩
    · rw [h3 j (by simp only [List.length_cons] at hj; omega), Array.getElem?_setIfInBounds]
      simp only [List.length_cons] at hj
      rw [if_neg (by omega)]
    · cases j with
      | zero =>
        rw [h3 _ (by omega), Array.getElem?_setIfInBounds]
        simp; omega
      | succ j =>
        have := h4 j (by simp only [List.length_cons] at hj; omega)
        rw [show off + (j + 1) = off + 1 + j by omega, this]
        simp

theorem frozen_of_block {w : World} {b off : Nat} {c e} {lo hi : Nat} (h : w.heap[b]? = some (.cells c e (lo, hi))) : w.frozen? ⟨b, off, none⟩ = (decide (lo ≤ off) && decide (off < hi)) := by
  simp [World.frozen?, h]

theorem run_storeCells {P : Program} : ∀ (vs : List Value) (w : World) (b off i : Nat), (∀ v ∈ vs, v.oneCell' = true) →
    (∀ j, j < vs.length → (∃ u, w.cell? ⟨b, off + i + j, none⟩ = some u) ∧ w.frozen? ⟨b, off + i + j, none⟩ = false) →
    (storeCells ⟨b, off, none⟩ vs i).run P w = .ok () (setRow w b (off + i) vs)
  | [], w, b, off, i, _, _ => rfl
  | v :: vs, w, b, off, i, h1, h2 => by
    obtain ⟨⟨u, hu⟩, hf⟩ := h2 0 (by simp)
    simp only [Nat.add_zero] at hu hf
    simp only [storeCells, Sem.run_bind, addr_add]
    rw [run_store P w _ v _ (h1 v (by simp)), hu]
    simp only [hf, Bool.false_eq_true, if_false, Result.andThen_ok]
    rw [run_storeCells vs _ b off (i + 1) (fun x hx => h1 x (by simp [hx]))]
    · simp [setRow, Nat.add_assoc]
    · intro j hj
      obtain ⟨⟨u', hu'⟩, hf'⟩ := h2 (j + 1) (by simp; omega)
      rw [show off + (i + 1) + j = off + i + (j + 1) by omega]
      refine ⟨⟨u', ?_⟩, ?_⟩
      · rw [World.cell?_setCell_other]
        · exact hu'
        · intro hh; injection hh with _ hh; omega
      · rw [World.frozen?_setCell]; exact hf'

def AV.one : AV → Bool
  | .any => false
  | .agg _ => false
  | .tup _ => false
  | .bp _ => false
  | .buf _ _ => false
  | .lit v => v.oneCell'
  | _ => true

theorem Rep.one {w g n} : ∀ {av : AV} {v : Value}, av.one = true → Rep w g n av v → v.oneCell' = true := by
  intro av v h hr
  cases av <;> simp [AV.one] at h <;> simp only [Rep] at hr
  · subst hr; exact h
  · obtain ⟨_, _, _, rfl, _⟩ := hr; rfl
  · obtain ⟨_, _, _, rfl, _⟩ := hr; rfl
  · obtain ⟨rfl, _⟩ := hr; rfl
  · obtain ⟨rfl, _⟩ := hr; rfl
  · obtain ⟨_, _, rfl, _⟩ := hr; rfl
  · obtain ⟨_, rfl, _⟩ := hr; rfl
  · obtain ⟨rfl, _⟩ := hr; rfl

theorem Reps.ones {w g n} : ∀ {as : List AV} {vs : List Value}, as.all AV.one = true → Reps w g n as vs → ∀ v ∈ vs, v.oneCell' = true
  | [], vs, _, h, v, hv => by simp [Reps] at h; subst h; cases hv
  | a :: as, vs, ho, h, v, hv => by
    obtain ⟨u, rest, rfl, h1, h2⟩ := Reps.cons.1 h
    simp at ho
    rcases List.mem_cons.1 hv with rfl | hv
    · exact h1.one ho.1
    · exact Reps.ones (by simpa using ho.2) h2 v hv

theorem RA.write {E B σ a w g} (h : RA E B σ a w g) {id off : Nat} {l avs : List AV} {vs : List Value} (hl : σ.heap[id]? = some (.cells l)) (hr : Reps w g σ.heap.length avs vs)
    (hno : ∀ av ∈ avs, NoOwn av) (hle : off + avs.length ≤ l.length) :
    RA E B { σ with heap := σ.heap.set id (.cells (setMany l off avs)) } a (setRow w (g.loc id) off vs) g := by
  obtain ⟨cs, e, hc⟩ := h.heap.cells id l hl
  have hid : id < σ.heap.length := by
    rcases Nat.lt_or_ge id σ.heap.length with h' | h'
    · exact h'
    · rw [List.getElem?_eq_none h'] at hl; cases hl
  have hlen : vs.length = avs.length := hr.length
  obtain ⟨h1, h2, h3, h4, h5⟩ := setRow_misc vs w (g.loc id) off
  obtain ⟨c', h6, h7, h8, h9⟩ := setRow_block vs w (g.loc id) off cs e (0, 0) hc.blk (by rw [hlen, hc.size]; exact hle)
  have hb : ∀ b off', g.own b off' ≠ .obj id → b ≠ g.loc id := fun b off' ho hbb => ho (by rw [hbb]; exact hc.own off')
  have hlater : Later w g σ.heap.length (setRow w (g.loc id) off vs) g (σ.heap.set id (.cells (setMany l off avs))).length := by
    refine ⟨by simp, fun _ _ => rfl, fun b off' u hcu ho => ⟨?_, ho⟩, fun b o hbo ho => ⟨by rw [h5 b (hb b 0 (by rw [ho 0]; simp))]; exact hbo, ho⟩⟩
    rw [World.cell?_of_block (w := w) (h5 b (hb b off' (by rw [ho]; simp)))]
    exact hcu
  have hks : ∀ s, KeepsSp w g (setRow w (g.loc id) off vs) g s := fun s b off' u ho hcu hf => by
    have hbb := h5 b (hb b off' (by rw [ho]; simp))
    exact ⟨ho, ⟨u, by rw [World.cell?_of_block (w := w) hbb]; exact hcu⟩, by rw [World.frozen?_of_block (w := w) hbb]; exact hf⟩
  have hkb : ∀ id', KeepsBuf w g (setRow w (g.loc id) off vs) g id' := fun id' b j hbl ho =>
    ⟨h5 b (hb b 0 (by rw [ho 0]; simp)), ho⟩
  refine ⟨h.nt, fun b off' ho => by rw [h4]; exact h.gok b off' ho, h.gl.later hlater.to_zero, h.tmps.step hlater (fun i => hks _), ?_, ?_, by simpa using h.n0, h.defers⟩
  · refine HeapOk.mk' ?_ fun id' kk es hl' => ?_
    rotate_left
    · have hii : id ≠ id' := by
        rintro rfl
        simp only [List.getElem?_set_self hid] at hl'
        cases hl'
      rw [List.getElem?_set_ne hii] at hl'
      have hm := h.heap.map id' kk es hl'
      have hid' : id' < σ.heap.length := (List.getElem?_eq_some_iff.1 hl').1
      refine hm.step hid' hlater (h5 _ (hb _ 0 ?_)) (fun _ => rfl)
      obtain ⟨en, clock, q1, q2, _⟩ := hm
      rw [q2 0]; intro hh; cases hh; exact hii rfl
    intro id' l' hl'
    by_cases hii : id = id'
    · subst hii
      simp only [List.getElem?_set_self hid] at hl'
      cases hl'
      have hset : ∀ (avs l : List AV) (off j : Nat), (setMany l off avs)[j]? = if off ≤ j ∧ j < off + avs.length ∧ j < l.length then avs[j - off]? else l[j]? := by
        intro avs
        induction avs with
        | nil => intro l off j; simp [setMany]; omega
        | cons x avs ih =>
          intro l off j
          simp only [setMany, ih, List.length_set, List.length_cons]
          by_cases hj : j = off
          · subst hj
            rw [if_neg (by omega)]
            by_cases hjl : j < l.length
            · rw [if_pos (by omega)]; simp [hjl]
            · rw [if_neg (by omega), List.getElem?_eq_none (by simpa using hjl), List.getElem?_eq_none (by simpa using hjl)]
          · by_cases hc2 : off + 1 ≤ j ∧ j < off + 1 + avs.length ∧ j < l.length
            · rw [if_pos hc2, if_pos (by omega), show j - off = (j - (off + 1)) + 1 by omega]; simp
            · rw [if_neg hc2, if_neg (by omega), List.getElem?_set_ne (by omega)]
      have hlt : ∀ {j : Nat} {av : AV}, l[j]? = some av → j < l.length := fun {j av} hj => by
        rcases Nat.lt_or_ge j l.length with h' | h'
        · exact h'
        · rw [List.getElem?_eq_none h'] at hj; cases hj
      refine ⟨c', e, h6, hc.own, by rw [h7, hc.size, setMany_length], ?_, ?_, ?_⟩
      rotate_left
      · intro e' he
        rw [hset] at he
        split at he
        · exact absurd rfl ((hno _ (List.mem_of_getElem? he)).2.1 _)
        · rename_i hjj
          rw [h8 0 (by have := hlt he; omega)]
          exact hc.bp e' he
      · intro j te b he
        rw [hset] at he
        split at he
        · exact absurd rfl ((hno _ (List.mem_of_getElem? he)).2.2 _ _)
        · rename_i hjj
          obtain ⟨v, q1, q2, q3⟩ := hc.buf j te b he
          exact ⟨v, by rw [h8 j (by have := hlt he; omega)]; exact q1, buf_keep q2 (fun k hv => (hkb id k j (q2.lt k hv).2 (q3 k hv)).1), q3⟩
      intro j av hj
      rw [hset] at hj
      split at hj
      · rename_i hjj
        obtain ⟨v, hv1, hv2⟩ := hr.get _ _ hj
        refine ⟨v, ?_, hv2.later hlater, (hno av (List.mem_of_getElem? hj)).spare⟩
        have := h9 (j - off) (by omega)
        rw [show off + (j - off) = j by omega] at this
        rw [this]; exact hv1
      · rename_i hjj
        obtain ⟨v, hv1, hv2, hv3⟩ := hc.rep j av hj
        have hjl : j < l.length := by
          rcases Nat.lt_or_ge j l.length with h' | h'
          · exact h'
          · rw [List.getElem?_eq_none h'] at hj; cases hj
        refine ⟨v, by rw [h8 j (by omega)]; exact hv1, hv2.later hlater, hv3.later hlater (hks _)⟩
    · rw [List.getElem?_set_ne hii] at hl'
      obtain ⟨vs', e', hc'⟩ := h.heap.cells id' l' hl'
      have hid' : id' < σ.heap.length := by
        rcases Nat.lt_or_ge id' σ.heap.length with h' | h'
        · exact h'
        · rw [List.getElem?_eq_none h'] at hl'; cases hl'
      refine ⟨vs', e', hc'.step hid' hlater (h5 _ (hb _ 0 ?_)) (fun _ => rfl) (fun j => hks _) (hkb _)⟩
      rw [hc'.own 0]; intro hh; cases hh; exact hii rfl
  · refine h.st.trans (n := σ.heap.length) ⟨by rw [h4]; exact Nat.le_refl _, h1, h2, h3, fun b hbl ho => h5 b ?_, fun b c2 e2 fr2 hcc _ => ?_, fun _ _ _ => ⟨id_of, id_of⟩, fun _ _ => rfl⟩ h.n0
    · refine hb b 0 ?_
      rcases ho 0 with ho | ho <;> rw [ho] <;> simp
    · by_cases hbb : b = g.loc id
      · subst hbb
        rw [hc.blk] at hcc
        cases hcc
        refine ⟨c', _, h6, h7, fun off' ho => ?_⟩
        rcases ho with ho | ho <;> rw [hc.own] at ho <;> cases ho
      · exact ⟨c2, fr2, by rw [h5 b hbb]; exact hcc, rfl, fun _ _ => ⟨rfl, rfl⟩⟩
  where
  id_of {p : Prop} (h : p) : p := h

theorem RA.setMap {E B σ a w g} (h : RA E B σ a w g) {id : Nat} {kk : KK} {es es' : List (Value × AV)} {en' : Array MapEntry} {clock' : Nat} (hl : σ.heap[id]? = some (.map kk es)) (k3 : en'.toList.map (·.key) = es'.map (·.1))
    (k4 : Reps w g σ.heap.length (es'.map (·.2)) (en'.toList.map (·.val))) (k5 : ∀ p, p ∈ es' → keyIs kk p.1 = true ∧ p.2.strip = p.2) (k6 : ∀ x, x ∈ en'.toList → x.born < clock') (k7 : (en'.toList.map (·.born)).Pairwise (· < ·)) :
    RA E B { σ with heap := σ.heap.set id (.map kk es') } a { w with heap := w.heap.setIfInBounds (g.loc id) (.map en' clock') } g := by
  obtain ⟨en, clock, q1, q2, q3, q4, q5⟩ := h.heap.map id kk es hl
  have hid : id < σ.heap.length := (List.getElem?_eq_some_iff.1 hl).1
  have hlt : g.loc id < w.heap.size := lt_of_heap q1
  have h5 : ∀ b, b ≠ g.loc id → (w.heap.setIfInBounds (g.loc id) (.map en' clock'))[b]? = w.heap[b]? := fun b hb => by simp [Ne.symm hb]
  have h6 : (w.heap.setIfInBounds (g.loc id) (.map en' clock'))[g.loc id]? = some (.map en' clock') := by simp [hlt]
  have hb : ∀ b off', g.own b off' ≠ .obj id → b ≠ g.loc id := fun b off' ho hbb => ho (by rw [hbb]; exact q2 off')
  have hlater : Later w g σ.heap.length { w with heap := w.heap.setIfInBounds (g.loc id) (.map en' clock') } g (σ.heap.set id (.map kk es')).length := by
    refine ⟨by simp, fun _ _ => rfl, fun b off' u hcu ho => ⟨?_, ho⟩, fun b o hbo ho => ⟨by show (w.heap.setIfInBounds _ _)[b]? = _; rw [h5 b (hb b 0 (by rw [ho 0]; simp))]; exact hbo, ho⟩⟩
    rw [World.cell?_of_block (w := w) (h5 b (hb b off' (by rw [ho]; simp)))]
    exact hcu
  have hks : ∀ s, KeepsSp w g { w with heap := w.heap.setIfInBounds (g.loc id) (.map en' clock') } g s := fun s b off' u ho hcu hf => by
    have hbb := h5 b (hb b off' (by rw [ho]; simp))
    exact ⟨ho, ⟨u, by rw [World.cell?_of_block (w := w) hbb]; exact hcu⟩, by rw [World.frozen?_of_block (w := w) hbb]; exact hf⟩
  have hkb : ∀ id', KeepsBuf w g { w with heap := w.heap.setIfInBounds (g.loc id) (.map en' clock') } g id' := fun id' b j hbl ho =>
    ⟨h5 b (hb b 0 (by rw [ho 0]; simp)), ho⟩
  refine ⟨h.nt, fun b off' ho => by show b < (w.heap.setIfInBounds _ _).size; rw [Array.size_setIfInBounds]; exact h.gok b off' ho, h.gl.later hlater.to_zero, h.tmps.step hlater (fun i => hks _), ?_, ?_, by simpa using h.n0, h.defers⟩
  · refine HeapOk.mk' (fun id' l' hl' => ?_) fun id' kk' es1 hl' => ?_
    · have hii : id ≠ id' := by
        rintro rfl
        simp only [List.getElem?_set_self hid] at hl'
        cases hl'
      rw [List.getElem?_set_ne hii] at hl'
      obtain ⟨vs', e', hc'⟩ := h.heap.cells id' l' hl'
      have hid' : id' < σ.heap.length := (List.getElem?_eq_some_iff.1 hl').1
      refine ⟨vs', e', hc'.step hid' hlater (h5 _ (hb _ 0 ?_)) (fun _ => rfl) (fun j => hks _) (hkb _)⟩
      rw [hc'.own 0]; intro hh; cases hh; exact hii rfl
    · by_cases hii : id = id'
      · subst hii
        simp only [List.getElem?_set_self hid] at hl'
        cases hl'
        exact ⟨en', clock', h6, q2, k3, by simpa using Reps.later hlater _ _ k4, k5, k6, k7⟩
      · rw [List.getElem?_set_ne hii] at hl'
        have hm := h.heap.map id' kk' es1 hl'
        have hid' : id' < σ.heap.length := (List.getElem?_eq_some_iff.1 hl').1
        refine hm.step hid' hlater (h5 _ (hb _ 0 ?_)) (fun _ => rfl)
        obtain ⟨en1, clock1, r1, r2, _⟩ := hm
        rw [r2 0]; intro hh; cases hh; exact hii rfl
  · refine h.st.trans (n := σ.heap.length) ⟨by simp, rfl, rfl, rfl, fun b hbl ho => h5 b ?_, fun b c2 e2 fr2 hcc _ => ?_, fun _ _ _ => ⟨fun x => x, fun x => x⟩, fun _ _ => rfl⟩ h.n0
    · refine hb b 0 ?_
      rcases ho 0 with ho | ho <;> rw [ho] <;> simp
    · by_cases hbb : b = g.loc id
      · subst hbb
        rw [q1] at hcc
        cases hcc
      · exact ⟨c2, fr2, by show (w.heap.setIfInBounds _ _)[b]? = _; rw [h5 b hbb]; exact hcc, rfl, fun _ _ => ⟨rfl, rfl⟩⟩

end Go.Abs

namespace Go.Abs
open Go Go.RowKit

def Gh.re (g : Gh) (f : Slot → Own) : Gh := { g with own := fun b off => match g.own b off with | .sp s => f s | o => o }

theorem re_com {g : Gh} {f} {b off} (h : g.own b off = .com) : (g.re f).own b off = .com := by simp [Gh.re, h]
theorem re_none {g : Gh} {f} {b off} (h : g.own b off = .none) : (g.re f).own b off = .none := by simp [Gh.re, h]
theorem re_obj {g : Gh} {f} {b off i} (h : g.own b off = .obj i) : (g.re f).own b off = .obj i := by simp [Gh.re, h]
theorem re_sp {g : Gh} {f} {b off s} (h : g.own b off = .sp s) : (g.re f).own b off = f s := by simp [Gh.re, h]

theorem later_re {w g n f} : Later w g n w (g.re f) n := ⟨Nat.le_refl _, fun _ _ => rfl, fun _ _ _ h h' => ⟨h, re_com h'⟩, fun _ _ h h' => ⟨h, fun off => re_com (h' off)⟩⟩

theorem SpareOk.re {w g n s s' f av v} (hf : f s = .sp s') (h : SpareOk w g n s av v) : SpareOk w (g.re f) n s' av v := by
  cases av <;> try exact trivial
  rename_i c es
  cases c <;> try exact trivial
  rename_i k
  cases v <;> try exact trivial
  rename_i a len cap
  cases a <;> try exact trivial
  rename_i a
  simp only [SpareOk] at h ⊢
  obtain ⟨h0, h1, h2⟩ := h
  refine ⟨h0, Els.later later_re _ _ _ _ h1, fun q hq1 hq2 => ?_⟩
  obtain ⟨h3, h4, h5⟩ := h2 q hq1 hq2
  exact ⟨by rw [re_sp h3]; exact hf, h4, h5⟩

def moveSp (s s' : Slot) (x : Slot) : Own := if x = s then .sp s' else if x = s' then .none else .sp x

theorem moveSp_same (s s' : Slot) : moveSp s s' s = .sp s' := by simp [moveSp]
theorem moveSp_other {s s' x : Slot} (h : x ≠ s) (h' : x ≠ s') : moveSp s s' x = .sp x := by simp [moveSp, h, h']

theorem GOk.re {w g s s'} (h : GOk w g) : GOk w (g.re (moveSp s s')) := fun b off ho => by
  refine h b off fun hn => ho (re_none hn)

theorem Stable.re {w0 g0 n0 w g f} (h : Stable w0 g0 n0 w g) : Stable w0 g0 n0 w (g.re f) where
  size := h.size
  os := h.os
  output := h.output
  tape := h.tape
  blk := h.blk
  cel := h.cel
  own := fun b off hb => ⟨fun ho => re_none ((h.own b off hb).1 ho), fun ho => re_com ((h.own b off hb).2 ho)⟩
  loc := h.loc

theorem CellsOk.re {w g n id l vs e s s'} (h : CellsOk w g n id l vs e) (h1 : ∀ j, s ≠ .cell id j) (h2 : ∀ j, s' ≠ .cell id j) : CellsOk w (g.re (moveSp s s')) n id l vs e where
  blk := h.blk
  own := fun off => re_obj (h.own off)
  size := h.size
  rep := fun j av hj => let ⟨v, h3, h4, h5⟩ := h.rep j av hj; ⟨v, h3, h4.later later_re, h5.re (moveSp_other (Ne.symm (h1 j)) (Ne.symm (h2 j)))⟩
  bp := h.bp
  buf := fun j te b hj => let ⟨v, h3, h4, h5⟩ := h.buf j te b hj; ⟨v, h3, h4, fun k hv off => by rw [re_sp (h5 k hv off)]; exact moveSp_other (Ne.symm (h1 j)) (Ne.symm (h2 j))⟩

theorem MapOk.re {w g n id kk es f} (h : MapOk w g n id kk es) : MapOk w (g.re f) n id kk es := by
  obtain ⟨en, clock, h1, h2, h3, h4, h5⟩ := h
  exact ⟨en, clock, h1, fun off => re_obj (h2 off), h3, Reps.later later_re _ _ h4, h5⟩
theorem HeapOk.re {w g h t d} (hh : HeapOk w g h) : HeapOk w (g.re (moveSp (.tmp t) (.tmp d))) h := HeapOk.mk' (fun id l hl =>
  let ⟨vs, e, hc⟩ := hh.cells id l hl
  ⟨vs, e, hc.re (fun _ hh => by cases hh) (fun _ hh => by cases hh)⟩) fun id kk es hl => (hh.map id kk es hl).re

theorem RA.take {E B σ a w g} (h : RA E B σ a w g) {t d : Nat} (hd : d < B.nt) (htd : t ≠ d) :
    RA E B { σ with tmps := (d, look σ.tmps t) :: (t, (look σ.tmps t).strip) :: σ.tmps } (a.put (some d) (a.tmps.getD t undef)) w (g.re (moveSp (.tmp t) (.tmp d))) where
  nt := by simp [Act.put]; exact h.nt
  gok := h.gok.re
  gl := h.gl.later (later_re (n := 0))
  heap := h.heap.re
  st := h.st.re
  n0 := h.n0
  defers := by simp [Act.put]; exact h.defers
  tmps := fun i => by
    rw [getD_put (by rw [h.nt]; exact hd)]
    by_cases hi : d = i
    · subst hi
      rw [look_cons_same, if_pos rfl]
      exact ⟨(h.tmps t).1.later later_re, (h.tmps t).2.re (moveSp_same _ _)⟩
    · rw [look_cons_ne hi, if_neg hi]
      by_cases hi2 : t = i
      · subst hi2
        rw [look_cons_same]
        exact ⟨(h.tmps t).1.strip.later later_re, SpareOk.strip⟩
      · rw [look_cons_ne hi2]
        refine ⟨(h.tmps i).1.later later_re, (h.tmps i).2.re (moveSp_other ?_ ?_)⟩
        · intro hh; cases hh; exact hi2 rfl
        · intro hh; cases hh; exact hi rfl

theorem RA.clear {E B σ a w g} (h : RA E B σ a w g) (d : Nat) : ∃ g', RA E B { σ with tmps := (d, .any) :: σ.tmps } a w g' ∧
    Later w g σ.heap.length w g' σ.heap.length ∧ ∀ b off, g'.own b off ≠ .sp (.tmp d) := by
  refine ⟨g.re (fun x => if x = .tmp d then .none else .sp x), ⟨h.nt, fun b off ho => h.gok b off fun hn => ho (re_none hn), h.gl.later (later_re (n := 0)), fun i => ?_, HeapOk.mk' (fun id l hl => ?_) (fun id kk es hl => (h.heap.map id kk es hl).re), h.st.re, h.n0, h.defers⟩, later_re, fun b off ho => ?_⟩
  · by_cases hi : d = i
    · subst hi; rw [look_cons_same]; exact ⟨by simp [Rep], trivial⟩
    · rw [look_cons_ne hi]
      refine ⟨(h.tmps i).1.later later_re, (h.tmps i).2.re ?_⟩
      rw [if_neg]; intro hh; cases hh; exact hi rfl
  · obtain ⟨vs, e, hc⟩ := h.heap.cells id l hl
    exact ⟨vs, e, hc.blk, fun off => re_obj (hc.own off), hc.size, fun j av hj => let ⟨v, h3, h4, h5⟩ := hc.rep j av hj; ⟨v, h3, h4.later later_re, h5.re (by simp)⟩, hc.bp,
      fun j te b hj => let ⟨v, h3, h4, h5⟩ := hc.buf j te b hj; ⟨v, h3, h4, fun k hv off => by rw [re_sp (h5 k hv off)]; simp⟩⟩
  · cases hg : g.own b off with
    | sp s =>
      rw [re_sp hg] at ho
      split at ho
      · cases ho
      · rename_i hne; injection ho with hh; exact hne hh
    | _ => simp [Gh.re, hg] at ho

def flatC (es : List AV) : List AV := es.flatMap AV.cells

def Fit (k : Nat) (es : List AV) : Prop := ∀ e, e ∈ es → e.sure = true ∧ e.cells.length = k

theorem Els.flat {w g n} : ∀ {es : List AV} {b off k : Nat}, Els w g n es b off k → (∀ e ∈ es, e.sure = true) → ∃ vs, vs.length = es.length * k ∧ Holds w g b off vs ∧ Reps w g n (flatC es) vs
  | [], b, off, k, _, _ => ⟨[], by simp, fun j u h => by simp at h, by simp [flatC, Reps]⟩
  | e :: es, b, off, k, h, hs => by
    simp only [Els] at h
    obtain ⟨⟨v, h1, h2, h3⟩, h4⟩ := h
    obtain ⟨vs, h5, h6, h7⟩ := Els.flat h4 (fun x hx => hs x (by simp [hx]))
    refine ⟨v.cells.toList ++ vs, ?_, fun j u hj => ?_, ?_⟩
    · simp [h5, h2, Nat.add_mul, Nat.add_comm]
    · rcases Nat.lt_or_ge j v.cells.toList.length with hlt | hge
      · rw [List.getElem?_append_left hlt] at hj; exact h3 j u hj
      · rw [List.getElem?_append_right hge] at hj
        have := h6 _ u hj
        simp at hge
        rw [show off + k + (j - v.cells.toList.length) = off + j by simp; omega] at this
        exact this
    · simp only [flatC, List.flatMap_cons]
      exact Reps.append (h1.cells (hs e (by simp))) h7

theorem Reps.append_split {w g n} : ∀ {as bs : List AV} {vs : List Value}, Reps w g n (as ++ bs) vs → ∃ us ws, vs = us ++ ws ∧ Reps w g n as us ∧ Reps w g n bs ws
  | [], bs, vs, h => ⟨[], vs, rfl, by simp [Reps], h⟩
  | a :: as, bs, vs, h => by
    obtain ⟨v, rest, rfl, h1, h2⟩ := Reps.cons.1 h
    obtain ⟨us, ws, rfl, h3, h4⟩ := Reps.append_split h2
    exact ⟨v :: us, ws, rfl, Reps.cons'.2 ⟨h1, h3⟩, h4⟩

theorem rep_of_cells {w g n} {e : AV} {vs : List Value} (hs : e.sure = true) (ho : e.cells.all AV.one = true) (h : Reps w g n e.cells vs) :
    ∃ v, Rep w g n e v ∧ v.cells.toList = vs := by
  by_cases hagg : ∃ cs, e = .agg cs
  · obtain ⟨cs, rfl⟩ := hagg
    refine ⟨.agg vs.toArray, ?_, by simp [Value.cells]⟩
    simp only [Rep]
    exact ⟨_, rfl, by simpa [AV.cells] using h⟩
  · have he : e.cells = [e] := by cases e <;> first | rfl | (exact absurd ⟨_, rfl⟩ hagg)
    rw [he] at h ho
    obtain ⟨v, rest, rfl, h1, h2⟩ := Reps.cons.1 h
    simp [Reps] at h2
    subst h2
    refine ⟨v, h1, ?_⟩
    have : v.oneCell' = true := h1.one (by simpa using ho)
    cases v <;> first | rfl | (cases this)

theorem Els.of_flat {w g n k} : ∀ {es : List AV} {b off : Nat} {vs : List Value}, Fit k es → (∀ e ∈ es, e.cells.all AV.one = true) → Holds w g b off vs → Reps w g n (flatC es) vs → Els w g n es b off k
  | [], _, _, _, _, _, _, _ => by simp [Els]
  | e :: es, b, off, vs, hf, ho, hH, hR => by
    simp only [flatC, List.flatMap_cons] at hR
    obtain ⟨us, ws, rfl, h1, h2⟩ := hR.append_split
    obtain ⟨hs, hk⟩ := hf e (by simp)
    obtain ⟨v, h3, h4⟩ := rep_of_cells hs (ho e (by simp)) h1
    have hul : us.length = k := by rw [h1.length, hk]
    simp only [Els]
    refine ⟨⟨v, h3, ?_, ?_⟩, Els.of_flat (vs := ws) (fun x hx => hf x (by simp [hx])) (fun x hx => ho x (by simp [hx])) ?_ h2⟩
    · rw [← Array.length_toList, h4, hul]
    · rw [h4]; intro j u hj; exact hH j u (by rw [List.getElem?_append_left]; exact hj; exact (List.getElem?_eq_some_iff.1 hj).1)
    · intro j u hj
      have := hH (k + j) u (by rw [List.getElem?_append_right (by omega)]; simpa [hul] using hj)
      rwa [← Nat.add_assoc] at this

theorem Els.append {w g n k} : ∀ {es xs : List AV} {b off : Nat}, Els w g n es b off k → Els w g n xs b (off + es.length * k) k → Els w g n (es ++ xs) b off k
  | [], xs, b, off, _, h => by simpa using h
  | e :: es, xs, b, off, h, h' => by
    simp only [Els, List.cons_append] at h ⊢
    refine ⟨h.1, Els.append h.2 ?_⟩
    rw [show off + k + es.length * k = off + (e :: es).length * k by simp [Nat.add_mul]; omega]
    exact h'

theorem growBy_le (N : Nat) : ∀ (r c : Nat), c ≤ 2 * N + 192 → Builtin.growBy N r c ≤ 2 * N + 192
  | 0, c, h => by simpa [Builtin.growBy] using h
  | r + 1, c, h => by
    unfold Builtin.growBy
    split
    · exact h
    · exact growBy_le N r _ (by omega)

theorem nextslicecap_le {need cap : Nat} (h : cap < need) : Builtin.nextslicecap need cap ≤ 2 * need + 192 := by
  unfold Builtin.nextslicecap
  split
  · omega
  · split
    · omega
    · exact growBy_le _ _ _ (by omega)

end Go.Abs

namespace Go.Abs
open Go Go.RowKit

theorem Els.fit {w g n k k'} {es : List AV} {b off : Nat} (h : Els w g n es b off k') (hf : Fit k es) : Els w g n es b off k := by
  cases es with
  | nil => simp [Els]
  | cons e es =>
    have : k' = k := by
      obtain ⟨v, h5, h6, _⟩ := h.get 0 e (by simp)
      obtain ⟨h7, h8⟩ := hf e (by simp)
      have := (h5.cells h7).length
      simp at this; omega
    rwa [this] at h

theorem own_open {w g n i c k es v} (hc : c = .own k ∨ (c = .full ∧ Fit k es)) (hr : Rep w g n (.sl c es) v) (hs : SpareOk w g n (.tmp i) (.sl c es) v) :
    ∃ base cap, v = .slice base es.length cap ∧ es.length ≤ cap ∧ (base = none → cap = 0) ∧ ∀ a, base = some a → (0 < cap → a.spot = none) ∧ Els w g n es a.block a.off k ∧
      ∀ q, es.length * k ≤ q → q < cap * k → g.own a.block (a.off + q) = .sp (.tmp i) ∧ (∃ u, w.cell? ⟨a.block, a.off + q, none⟩ = some u) ∧ w.frozen? ⟨a.block, a.off + q, none⟩ = false := by
  simp only [Rep] at hr
  obtain ⟨base, len, cap, rfl, h1, h2, h3, h4, h5⟩ := hr
  subst h1
  refine ⟨base, cap, rfl, h2, h4, fun a ha => ?_⟩
  subst ha
  obtain ⟨h6, k', h7⟩ := h5 a rfl
  refine ⟨h6, ?_⟩
  rcases hc with rfl | ⟨rfl, hf⟩
  · simp only [SpareOk] at hs
    exact ⟨hs.2.1, hs.2.2⟩
  · refine ⟨h7.fit hf, fun q hq1 hq2 => ?_⟩
    rw [h3 rfl] at hq2
    omega

theorem RA.appendIn {E B σ a w g} (h : RA E B σ a w g) {i k : Nat} {c : Cap} {es xs : List AV} {b off cap : Nat} {vs : List Value} (hi : i < B.nt) (hk : 0 < k)
    (hlook : look σ.tmps i = .sl c es) (hc : c = .own k ∨ (c = .full ∧ Fit k es)) (hv : a.tmps.getD i undef = .slice (some ⟨b, off, none⟩) es.length cap)
    (hf : Fit k xs) (ho : ∀ e ∈ xs, e.cells.all AV.one = true) (hR : Reps w g σ.heap.length (flatC xs) vs) (hroom : es.length + xs.length ≤ cap) :
    vs.length = xs.length * k ∧ (∀ j, j < vs.length → (∃ u, w.cell? ⟨b, off + es.length * k + j, none⟩ = some u) ∧ w.frozen? ⟨b, off + es.length * k + j, none⟩ = false) ∧
    ∃ g', RA E B { σ with tmps := (i, .sl (.own k) (es ++ xs)) :: σ.tmps } (a.put (some i) (.slice (some ⟨b, off, none⟩) (es.length + xs.length) cap)) (setRow w b (off + es.length * k) vs) g' := by
  have hvl : vs.length = xs.length * k := by
    rw [hR.length]
    clear hR hroom ho
    induction xs with
    | nil => simp [flatC]
    | cons x xs ih =>
      have h1 := hf x (by simp)
      have h2 := ih (fun e he => hf e (by simp [he]))
      simp only [flatC, List.flatMap_cons, List.length_append, List.length_cons, Nat.add_mul, Nat.one_mul] at h2 ⊢
      rw [h2, h1.2]; omega
  obtain ⟨hr0, hs0⟩ := h.tmps i
  rw [hlook, hv] at hr0 hs0
  obtain ⟨base, cap', heq, hle, _, hopen⟩ := own_open hc hr0 hs0
  injection heq with e1 _ e3
  subst e1 e3
  obtain ⟨_, hels, hsp⟩ := hopen _ rfl
  simp only at hels hsp
  have hmul : (es.length + xs.length) * k ≤ cap * k := Nat.mul_le_mul_right k hroom
  have hadd : (es.length + xs.length) * k = es.length * k + xs.length * k := Nat.add_mul _ _ _
  have hin : ∀ j, j < vs.length → g.own b (off + es.length * k + j) = .sp (.tmp i) ∧ (∃ u, w.cell? ⟨b, off + es.length * k + j, none⟩ = some u) ∧ w.frozen? ⟨b, off + es.length * k + j, none⟩ = false := fun j hj => by
    have := hsp (es.length * k + j) (by omega) (by omega)
    rw [← Nat.add_assoc] at this
    exact this
  refine ⟨hvl, fun j hj => (hin j hj).2, ?_⟩
  let g' : Gh := { g with own := fun b' o => if b' = b ∧ off + es.length * k ≤ o ∧ o < off + es.length * k + vs.length then .com else g.own b' o }
  have hg'in : ∀ j, j < vs.length → g'.own b (off + es.length * k + j) = .com := fun j hj => if_pos ⟨rfl, Nat.le_add_right _ _, by omega⟩
  have hg'out : ∀ b' o, ¬ (b' = b ∧ off + es.length * k ≤ o ∧ o < off + es.length * k + vs.length) → g'.own b' o = g.own b' o := fun b' o hh => if_neg hh
  have hnot : ∀ b' o, g.own b' o ≠ .sp (.tmp i) → ¬ (b' = b ∧ off + es.length * k ≤ o ∧ o < off + es.length * k + vs.length) := fun b' o hne ⟨h1, h2, h3⟩ => by
    subst h1
    have := (hin (o - (off + es.length * k)) (by omega)).1
    rw [show off + es.length * k + (o - (off + es.length * k)) = o by omega] at this
    exact hne this
  obtain ⟨m1, m2, m3, m4, m5⟩ := setRow_misc vs w b (off + es.length * k)
  -- the block
  have hblk : vs = [] ∨ ∃ cs e lo hi, w.heap[b]? = some (.cells cs e (lo, hi)) ∧ off + es.length * k + vs.length ≤ cs.size := by
    rcases Nat.eq_zero_or_pos vs.length with h0 | h0
    · exact .inl (List.length_eq_zero_iff.1 h0)
    · right
      obtain ⟨_, ⟨u, hu⟩, _⟩ := hin (vs.length - 1) (by omega)
      unfold World.cell? at hu
      simp only at hu
      split at hu
      · rename_i cs e fr heq
        refine ⟨cs, e, fr.1, fr.2, heq, ?_⟩
        simp at hu
        have := (Array.getElem?_eq_some_iff.1 hu).1
        omega
      · cases hu
  have hcell : ∀ b' o, ¬ (b' = b ∧ off + es.length * k ≤ o ∧ o < off + es.length * k + vs.length) → (setRow w b (off + es.length * k) vs).cell? ⟨b', o, none⟩ = w.cell? ⟨b', o, none⟩ := fun b' o hh => by
    by_cases hb : b' = b
    · subst hb
      rcases hblk with h0 | ⟨cs, e, lo, hi', hbk, hsz⟩
      · subst h0; rfl
      · obtain ⟨c', h6, h7, h8, _⟩ := setRow_block vs w b' (off + es.length * k) cs e (lo, hi') hbk hsz
        rw [cell_of_heap h6, cell_of_heap hbk, h8 o (by omega)]
    · exact World.cell?_of_block (w := w) (m5 b' hb)
  have hfro : ∀ b' o, (setRow w b (off + es.length * k) vs).frozen? ⟨b', o, none⟩ = w.frozen? ⟨b', o, none⟩ := fun b' o => by
    by_cases hb : b' = b
    · subst hb
      rcases hblk with h0 | ⟨cs, e, lo, hi', hbk, hsz⟩
      · subst h0; rfl
      · obtain ⟨c', h6, _⟩ := setRow_block vs w b' (off + es.length * k) cs e (lo, hi') hbk hsz
        rw [frozen_of_block h6, frozen_of_block hbk]
    · exact World.frozen?_of_block (w := w) (m5 b' hb)
  have hlater : Later w g σ.heap.length (setRow w b (off + es.length * k) vs) g' σ.heap.length := by
    refine ⟨Nat.le_refl _, fun _ _ => rfl, fun b' o u hcu hcom => ?_, fun b' o hbo hcom => ⟨?_, fun off' => ?_⟩⟩
    · have hn := hnot b' o (by rw [hcom]; simp)
      exact ⟨by rw [hcell _ _ hn]; exact hcu, by rw [hg'out _ _ hn]; exact hcom⟩
    · by_cases hb : b' = b
      · subst hb
        rcases Nat.eq_zero_or_pos vs.length with h0 | h0
        · have := List.length_eq_zero_iff.1 h0; subst this; exact hbo
        · exfalso
          have h1 := (hin 0 h0).1
          rw [hcom] at h1; cases h1
      · rw [m5 b' hb]; exact hbo
    · rw [hg'out _ _ (hnot b' off' (by rw [hcom]; simp))]; exact hcom off'
  have hks : ∀ s, s ≠ .tmp i → KeepsSp w g (setRow w b (off + es.length * k) vs) g' s := fun s hs b' o u ho' hcu hf' => by
    have hn := hnot b' o (by rw [ho']; simpa using hs)
    exact ⟨by rw [hg'out _ _ hn]; exact ho', ⟨u, by rw [hcell _ _ hn]; exact hcu⟩, by rw [hfro]; exact hf'⟩
  have hkb : ∀ id, KeepsBuf w g (setRow w b (off + es.length * k) vs) g' id := fun id b' j _ hall => by
    refine ⟨?_, fun o => ?_⟩
    · by_cases hb : b' = b
      · subst hb
        rcases Nat.eq_zero_or_pos vs.length with h0 | h0
        · have := List.length_eq_zero_iff.1 h0; subst this; rfl
        · exfalso
          have h1 := (hin 0 h0).1
          rw [hall] at h1; cases h1
      · exact m5 b' hb
    · rw [hg'out _ _ (hnot b' o (by rw [hall o]; simp))]; exact hall o
  have hstable : Stable w g σ.heap.length (setRow w b (off + es.length * k) vs) g' := by
    refine ⟨by rw [m4]; exact Nat.le_refl _, m1, m2, m3, fun b' hb' hall => ?_, fun b' c2 e2 fr2 hcc _ => ?_, fun b' o hb' => ⟨fun hn => ?_, fun hn => ?_⟩, fun _ _ => rfl⟩
    · by_cases hb : b' = b
      · subst hb
        rcases Nat.eq_zero_or_pos vs.length with h0 | h0
        · have := List.length_eq_zero_iff.1 h0; subst this; rfl
        · exfalso
          have := (hin 0 h0).1
          rcases hall (off + es.length * k + 0) with h' | h' <;> rw [this] at h' <;> cases h'
      · exact m5 b' hb
    · by_cases hb : b' = b
      · subst hb
        rcases hblk with h0 | ⟨cs, e, lo, hi', hbk, hsz⟩
        · subst h0; exact ⟨c2, fr2, hcc, rfl, fun _ _ => ⟨rfl, rfl⟩⟩
        · rw [hbk] at hcc
          cases hcc
          obtain ⟨c', h6, h7, h8, _⟩ := setRow_block vs w b' (off + es.length * k) _ _ _ hbk hsz
          refine ⟨c', _, h6, h7, fun o ho' => ⟨rfl, h8 o ?_⟩⟩
          have := hnot b' o (by rcases ho' with ho' | ho' <;> rw [ho'] <;> simp)
          omega
      · exact ⟨c2, fr2, by rw [m5 b' hb]; exact hcc, rfl, fun _ _ => ⟨rfl, rfl⟩⟩
    · rw [hg'out _ _ (hnot b' o (by rw [hn]; simp))]; exact hn
    · rw [hg'out _ _ (hnot b' o (by rw [hn]; simp))]; exact hn
  have hgok : GOk (setRow w b (off + es.length * k) vs) g' := fun b' o hne => by
    rw [m4]
    by_cases hh : b' = b ∧ off + es.length * k ≤ o ∧ o < off + es.length * k + vs.length
    · obtain ⟨rfl, h1, h2⟩ := hh
      obtain ⟨h3, _⟩ := hin (o - (off + es.length * k)) (by omega)
      rw [show off + es.length * k + (o - (off + es.length * k)) = o by omega] at h3
      exact h.gok b' o (by rw [h3]; simp)
    · rw [hg'out _ _ hh] at hne; exact h.gok b' o hne
  have hHolds : Holds (setRow w b (off + es.length * k) vs) g' b (off + es.length * k) vs := fun j u hj => by
    have hjl : j < vs.length := (List.getElem?_eq_some_iff.1 hj).1
    refine ⟨?_, hg'in j hjl⟩
    rcases hblk with h0 | ⟨cs, e, lo, hi', hbk, hsz⟩
    · subst h0; simp at hj
    · obtain ⟨c', h6, _, _, h9⟩ := setRow_block vs w b (off + es.length * k) cs e (lo, hi') hbk hsz
      rw [cell_of_heap h6, h9 j hjl]; exact hj
  have hEls : Els (setRow w b (off + es.length * k) vs) g' σ.heap.length (es ++ xs) b off k :=
    Els.append (Els.later hlater _ _ _ _ hels) (Els.of_flat hf ho hHolds (Reps.later hlater _ _ hR))
  refine ⟨g', by simp [Act.put]; exact h.nt, hgok, h.gl.later hlater.to_zero, fun j => ?_, HeapOk.mk' (fun id l hl => ?_) (fun id kk ms hl => ?_), h.st.trans hstable h.n0, h.n0, by simp [Act.put]; exact h.defers⟩
  · rw [getD_put (by rw [h.nt]; exact hi)]
    by_cases hj : i = j
    · subst hj
      rw [look_cons_same, if_pos rfl]
      refine ⟨?_, ?_⟩
      · simp only [Rep]
        exact ⟨_, _, _, rfl, by simp, hroom, (fun hh => by cases hh), (fun hh => by cases hh), fun a' ha' => by cases ha'; exact ⟨fun _ => rfl, k, hEls⟩⟩
      · simp only [SpareOk]
        refine ⟨hk, hEls, fun q hq1 hq2 => ?_⟩
        have hq := hsp q (by omega) hq2
        have hn : ¬ (b = b ∧ off + es.length * k ≤ off + q ∧ off + q < off + es.length * k + vs.length) := by omega
        refine ⟨by rw [hg'out _ _ hn]; exact hq.1, ?_, by rw [hfro]; exact hq.2.2⟩
        obtain ⟨u, hu⟩ := hq.2.1
        exact ⟨u, by rw [hcell _ _ hn]; exact hu⟩
    · rw [look_cons_ne hj, if_neg hj]
      refine ⟨(h.tmps j).1.later hlater, (h.tmps j).2.later hlater (hks _ ?_)⟩
      intro hh; cases hh; exact hj rfl
  rotate_left
  · have hm := h.heap.map id kk ms hl
    have hid : id < σ.heap.length := (List.getElem?_eq_some_iff.1 hl).1
    have hm2 := hm; obtain ⟨en, clock, q1, q2, _⟩ := hm2
    have hobj : ∀ o, ¬ (g.loc id = b ∧ off + es.length * k ≤ o ∧ o < off + es.length * k + vs.length) := fun o => hnot _ o (by rw [q2]; simp)
    refine hm.step hid hlater ?_ (fun o => hg'out _ _ (hobj o))
    by_cases hb : g.loc id = b
    · rcases Nat.eq_zero_or_pos vs.length with h0 | h0
      · have := List.length_eq_zero_iff.1 h0; subst this; rfl
      · exact absurd ⟨hb, Nat.le_refl _, by omega⟩ (hobj (off + es.length * k))
    · exact m5 _ hb
  · obtain ⟨cs, e, hc'⟩ := h.heap.cells id l hl
    have hid : id < σ.heap.length := by
      rcases Nat.lt_or_ge id σ.heap.length with h' | h'
      · exact h'
      · rw [List.getElem?_eq_none h'] at hl; cases hl
    have hobj : ∀ o, ¬ (g.loc id = b ∧ off + es.length * k ≤ o ∧ o < off + es.length * k + vs.length) := fun o => hnot _ o (by rw [hc'.own]; simp)
    refine ⟨cs, e, hc'.step hid hlater ?_ (fun o => hg'out _ _ (hobj o)) (fun j => hks _ (by simp)) (hkb _)⟩
    by_cases hb : g.loc id = b
    · rcases Nat.eq_zero_or_pos vs.length with h0 | h0
      · have := List.length_eq_zero_iff.1 h0; subst this; rfl
      · exact absurd ⟨hb, Nat.le_refl _, by omega⟩ (hobj (off + es.length * k))
    · exact m5 _ hb

structure Pushed (w w' : World) (o : Obj) : Prop where
  heap : w'.heap = w.heap.push o
  os : w'.os = w.os
  output : w'.output = w.output
  tape : w'.tape = w.tape

theorem grown_push {w w' g n o} (hp : Pushed w w' o) (hk : GOk w g) (f : Nat → Own) : Grown w g n w' (g.new w.heap.size f) where
  size := by rw [hp.heap]; simp
  os := hp.os
  output := hp.output
  tape := hp.tape
  blk := fun b hb => by rw [hp.heap, Array.getElem?_push, if_neg (by omega)]
  own := fun b off hb => by simp only [Gh.new]; rw [if_neg (by omega)]
  loc := fun _ _ => rfl
  gok := fun b off ho => by
    rw [hp.heap]
    simp only [Gh.new] at ho
    split at ho
    · simp_all
    · have := hk b off ho; simp; omega

theorem RA.appendNew {E B σ a w g} (h : RA E B σ a w g) {i k cap : Nat} {ys : List AV} {vs : List Value} {e : TypeId} (hi : i < B.nt) (hk : 0 < k)
    (hEl : ∀ w' g' b, Later w g σ.heap.length w' g' σ.heap.length → Holds w' g' b 0 vs → Els w' g' σ.heap.length ys b 0 k)
    (hvl : vs.length = ys.length * k) (hroom : ys.length ≤ cap) (rest : List Value) (hrest : vs.length + rest.length = cap * k) {w' : World} {lo hi' : Nat} (hfr : cap * k ≤ lo ∨ hi' = 0)
    (hp : Pushed w w' (.cells (vs ++ rest).toArray e (lo, hi'))) :
    ∃ g', RA E B { σ with tmps := (i, .sl (.own k) ys) :: σ.tmps } (a.put (some i) (.slice (some ⟨w.heap.size, 0, none⟩) ys.length cap)) w' g' := by
  obtain ⟨g1, h0, hlater0, hcl⟩ := h.clear i
  let f : Nat → Own := fun o => if o < vs.length then .com else if o < cap * k then .sp (.tmp i) else .none
  have hg : Grown w g1 σ.heap.length w' (g1.new w.heap.size f) := grown_push hp h0.gok f
  have h1 := h0.grow' hg
  have hnew : w'.heap[w.heap.size]? = some (.cells (vs ++ rest).toArray e (lo, hi')) := by rw [hp.heap]; simp
  have hH : Holds w' (g1.new w.heap.size f) w.heap.size 0 vs := fun j u hj => by
    have hjl : j < vs.length := (List.getElem?_eq_some_iff.1 hj).1
    refine ⟨?_, by simp [Gh.new, f, hjl]⟩
    rw [cell_of_heap hnew]
    simp [List.getElem?_append_left hjl, hj]
  have hE := hEl _ _ _ (hlater0.trans (hg.later (Nat.le_refl _))) hH
  refine ⟨g1.new w.heap.size f, ?_⟩
  have h2 := RA.put (d := i) (av := .sl (.own k) ys) (v := .slice (some ⟨w.heap.size, 0, none⟩) ys.length cap) h1 hi ?_ ?_
  · refine ⟨h2.nt, h2.gok, h2.gl, fun j => ?_, h2.heap, h2.st, h2.n0, h2.defers⟩
    have := h2.tmps j
    simp only [ASt.put] at this
    by_cases hj : i = j
    · subst hj; simpa [look] using this
    · simpa [look, hj] using this
  · simp only [Rep]
    exact ⟨_, _, _, rfl, rfl, hroom, (fun hh => by cases hh), (fun hh => by cases hh), fun a' ha' => by cases ha'; exact ⟨fun _ => rfl, k, hE⟩⟩
  · simp only [SpareOk]
    refine ⟨hk, hE, fun q hq1 hq2 => ⟨?_, ?_, ?_⟩⟩
    · simp only [Gh.new, if_true, f, Nat.zero_add]
      rw [if_neg (by omega), if_pos hq2]
    · rw [cell_of_heap hnew]
      have hql : q < (vs ++ rest).toArray.size := by simp; omega
      exact ⟨_, Array.getElem?_eq_getElem (by simpa using hql)⟩
    · rw [frozen_of_block hnew]; simp; omega

end Go.Abs

namespace Go.Abs
open Go Go.RowKit

variable {P : Program} {w : World} {g : Gh} {n : Nat}

def argElems : AV → Option (List AV)
  | .sl _ xs => some xs
  | .lit (.string s) => some (s.data.toList.map fun b => .lit (.int .u8 b.toNat))
  | _ => none

theorem flatC_fit {k : Nat} : ∀ {es : List AV}, Fit k es → (flatC es).length = es.length * k
  | [], _ => by simp [flatC]
  | x :: xs, hf => by
    have h1 := hf x (by simp)
    have h2 := flatC_fit (es := xs) (fun e he => hf e (by simp [he]))
    simp only [flatC, List.flatMap_cons, List.length_append, List.length_cons, Nat.add_mul, Nat.one_mul] at h2 ⊢
    rw [h2, h1.2]; omega

theorem flat_lits (l : List Value) (hl : ∀ v ∈ l, v.oneCell' = true) : flatC (l.map AV.lit) = l.map AV.lit := by
  induction l with
  | nil => rfl
  | cons v l ih =>
    simp only [flatC, List.map_cons, List.flatMap_cons] at ih ⊢
    rw [ih (fun v hv => hl v (by simp [hv]))]
    rfl

theorem Reps.lits : ∀ (l : List Value), Reps w g n (l.map AV.lit) l
  | [] => by simp [Reps]
  | v :: l => Reps.cons'.2 ⟨Rep.lit_iff.2 rfl, Reps.lits l⟩

theorem argElems_run {x : AV} {v : Value} {xs : List AV} {k : Nat} (hx : argElems x = some xs) (hr : Rep w g n x v) (hf : Fit k xs) :
    ∃ vs, (Builtin.lenOf v).run P w = .ok xs.length w ∧ (Builtin.firstCells k xs.length v).run P w = .ok vs.toArray w ∧ Reps w g n (flatC xs) vs ∧ vs.length = xs.length * k := by
  cases x <;> simp [argElems] at hx
  case lit u =>
    cases u <;> simp at hx
    case string s =>
      subst hx
      rw [Rep.lit_iff] at hr
      subst hr
      have hk : s.data.toList = [] ∨ k = 1 := by
        cases hs : s.data.toList with
        | nil => exact .inl rfl
        | cons b l =>
          right
          have := (hf (.lit (.int .u8 b.toNat)) (by simp [hs])).2
          simpa [AV.cells] using this.symm
      refine ⟨s.data.toList.map fun b => .int .u8 b.toNat, ?_, ?_, ?_, ?_⟩
      · simp [Builtin.lenOf]
      · simp only [Builtin.firstCells]
        have : s.extract 0 (List.map (fun b => AV.lit (Value.int IntKind.u8 ↑b.toNat)) s.data.toList).length = s := by
          simp
        rw [this]
        simp only [Sem.run_pure]
        congr 1
        exact Array.ext' (by simp)
      · have e1 : (s.data.toList.map fun b => AV.lit (Value.int .u8 b.toNat)) = (s.data.toList.map fun b => Value.int .u8 b.toNat).map AV.lit := by simp
        rw [e1, flat_lits _ (by simp [Value.oneCell'])]
        exact Reps.lits _
      · rcases hk with h | h
        · simp [h]
        · subst h; simp
  case sl c es =>
    subst hx
    simp only [Rep] at hr
    obtain ⟨base, len, cap, rfl, h1, h2, h3, h4, h5⟩ := hr
    subst h1
    cases base with
    | none =>
      have : es = [] := List.length_eq_zero_iff.1 (by have := h4 rfl; omega)
      subst this
      exact ⟨[], by simp [Builtin.lenOf], by simp [Builtin.firstCells], by simp [flatC, Reps], by simp⟩
    | some a =>
      obtain ⟨h6, k', h7⟩ := h5 a rfl
      obtain ⟨b, off, spot⟩ := a
      simp only at h6 h7
      cases hes : es with
      | nil => exact ⟨[], by simp [Builtin.lenOf], by simp only [Builtin.firstCells, List.length_nil, Nat.zero_mul]; rfl, by simp [flatC, Reps], by simp⟩
      | cons x es' =>
      rw [← hes]
      have h6 := h6 (by have := congrArg List.length hes; simp at this; omega)
      subst h6
      obtain ⟨vs, h8, h9, h10⟩ := (h7.fit hf).flat (fun e he => (hf e he).1)
      refine ⟨vs, by simp [Builtin.lenOf], ?_, h10, h8⟩
      simp only [Builtin.firstCells]
      rw [← h8]
      exact loadCells_holds fun j u hj => (h9 j u hj).1

theorem append_in {t tx e ty : TypeId} {d : TypeDesc} {inf : TypeInfo} {b off sLen cap m : Nat} {v : Value} {vs : List Value} (ht : P.underlying t = some (.slice e)) (htx : P.underlying tx = some d) (hd : ∀ k, d ≠ .int k) (hi : P.info? e = some inf)
    (h1 : (Builtin.lenOf v).run P w = .ok m w) (h2 : (Builtin.firstCells inf.size m v).run P w = .ok vs.toArray w) (hroom : sLen + m ≤ cap)
    (h3 : ∀ v ∈ vs, v.oneCell' = true) (h4 : ∀ j, j < vs.length → (∃ u, w.cell? ⟨b, off + sLen * inf.size + j, none⟩ = some u) ∧ w.frozen? ⟨b, off + sLen * inf.size + j, none⟩ = false) :
    (Builtin.append_ #[t, tx] ty #[.slice (some ⟨b, off, none⟩) sLen cap, v]).run P w = .ok (.slice (some ⟨b, off, none⟩) (sLen + m) cap) (setRow w b (off + sLen * inf.size) vs) := by
  have hz : (d matches .int _) = false := by cases d <;> first | rfl | exact absurd rfl (hd _)
  have hst := run_storeCells (P := P) vs w b (off + sLen * inf.size) 0 h3 (by simpa using h4)
  simp only [Nat.add_zero] at hst
  simp [Builtin.append_, run_und ht, run_und htx, run_siz hi, h1, h2, hroom, addr_add, hst, hz]

theorem append_nil {t tx e ty : TypeId} {d : TypeDesc} {inf : TypeInfo} {v : Value} {vs : List Value} (ht : P.underlying t = some (.slice e)) (htx : P.underlying tx = some d) (hd : ∀ k, d ≠ .int k) (hi : P.info? e = some inf)
    (h1 : (Builtin.lenOf v).run P w = .ok 0 w) (h2 : (Builtin.firstCells inf.size 0 v).run P w = .ok vs.toArray w) :
    (Builtin.append_ #[t, tx] ty #[.slice none 0 0, v]).run P w = .ok (.slice none 0 0) w := by
  have hz : (d matches .int _) = false := by cases d <;> first | rfl | exact absurd rfl (hd _)
  simp [Builtin.append_, run_und ht, run_und htx, run_siz hi, h1, h2, hz]

theorem append_zero {t tx e ty : TypeId} {d : TypeDesc} {inf : TypeInfo} {v : Value} {a : Addr} {cap : Nat} {vs : List Value} (ht : P.underlying t = some (.slice e)) (htx : P.underlying tx = some d) (hd : ∀ k, d ≠ .int k) (hi : P.info? e = some inf)
    (h1 : (Builtin.lenOf v).run P w = .ok 0 w) (h2 : (Builtin.firstCells inf.size 0 v).run P w = .ok vs.toArray w) (hvs : vs = []) :
    (Builtin.append_ #[t, tx] ty #[.slice (some a) 0 cap, v]).run P w = .ok (.slice (some a) 0 cap) w := by
  have hz : (d matches .int _) = false := by cases d <;> first | rfl | exact absurd rfl (hd _)
  subst hvs
  simp [Builtin.append_, run_und ht, run_und htx, run_siz hi, h1, h2, hz, storeCells]

theorem zeroCells_size (z : Array Value) (n : Nat) : (Builtin.zeroCells z n).size = n * z.size := by simp [Builtin.zeroCells]

theorem append_new {t tx e ty : TypeId} {d : TypeDesc} {inf : TypeInfo} {z : Value} {base : Option Addr} {sLen cap m : Nat} {v : Value} {us vs : List Value} (ht : P.underlying t = some (.slice e)) (htx : P.underlying tx = some d) (hd : ∀ k, d ≠ .int k) (hi : P.info? e = some inf) (hzero : inf.zero = some z)
    (h0' : (Builtin.firstCells inf.size sLen (.slice base sLen cap)).run P w.drew = .ok us.toArray w.drew)
    (h1 : (Builtin.lenOf v).run P w = .ok m w) (h2 : (Builtin.firstCells inf.size m v).run P w.drew = .ok vs.toArray w.drew) (hroom : cap < sLen + m)
    (hbound : (2 * (sLen + m) + 192) * inf.bytes ≤ 2 ^ 48) (hint : sLen + m < 2 ^ 62) :
    ∃ newCap, sLen + m ≤ newCap ∧ (Builtin.append_ #[t, tx] ty #[.slice base sLen cap, v]).run P w =
      .ok (.slice (some ⟨w.heap.size, 0, none⟩) (sLen + m) newCap) (w.drew.alloc (.cells (us ++ vs ++ (Builtin.zeroCells z.cells (newCap - (sLen + m))).toList).toArray e)) := by
  have hz : (d matches .int _) = false := by cases d <;> first | rfl | exact absurd rfl (hd _)
  let newCap := (Question.appendCap (sLen + m) cap e).cut (w.tape w.drawn (.appendCap (sLen + m) cap e))
  have hnc : sLen + m ≤ newCap := by simp only [newCap, Question.cut]; omega
  refine ⟨newCap, hnc, ?_⟩
  have hch : (choose (.appendCap (sLen + m) cap e)).run P w = .ok newCap w.drew := by
    rw [run_choose]; rfl
  have hns : ¬ Builtin.nextslicecap (sLen + m) cap * inf.bytes > 2 ^ 48 := by
    have h6 := nextslicecap_le hroom
    have h7 := Nat.mul_le_mul_right inf.bytes h6
    omega
  have hmx : ¬ ((sLen + m : Nat) : Int) > IntKind.i64.max := by simp [IntKind.max, IntKind.signed, IntKind.bits]; omega
  have hle : ¬ sLen + m ≤ cap := by omega
  have hmx' : ¬ (9223372036854775807 : Int) < (sLen : Int) + m := by omega
  have hmx2 : IntKind.i64.max = 9223372036854775807 := rfl
  have hns' : ¬ 281474976710656 < Builtin.nextslicecap (sLen + m) cap * inf.bytes := by simpa using hns
  simp [Builtin.append_, run_und ht, run_und htx, run_siz hi, run_inf hi, h1, h2, h0', hz, hle, hmx', hns', hch, zeroValue, hzero, newRow, hmx2, Question.forced, newCap]
  congr 2
  exact Array.ext' (by simp)

end Go.Abs
