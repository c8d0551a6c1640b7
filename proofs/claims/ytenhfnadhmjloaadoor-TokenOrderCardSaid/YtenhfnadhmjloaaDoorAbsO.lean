/- Code, resolved; its weakest precondition. -/
import Derived.Test.YtenhfnadhmjloaaDoorAbsN
set_option linter.all false
namespace Go.Abs
open Go Go.RowKit

structure AOper where
  dst : Option Nat
  op : AOp
  guard : Option (Nat × Bool)

inductive ACode where
  | skip
  | region (ops : List AOper)
  | draw (ops : List AOper)
  | seq (a b : ACode)
  | cond (c : Operand) (x y : ACode)
  | block (id : Nat) (c : ACode)
  | loop (c : ACode)
  | exit (id : Nat)
  | ret

/-- Hints: which operations hand their operand's room on, or make an object. -/
abbrev Hints := List (Nat × Nat)

def copT (P : Program) (tk : Bool) (op : Op) : Option AOp :=
  if tk then
    match op with
    | .move (.tmp t) | .assign (.tmp t) => some (.take t)
    | .buildSlice t len parts => (match cop P (.buildSlice t len parts) with | some (.buildSlice _ k z l p) => some (.buildSlice true k z l p) | _ => none)
    | _ => none
  else cop P op

def dstOk (nt : Nat) : Option Nat → Bool
  | some i => decide (i < nt)
  | none => true

/-- The temporary that a guard asks. -/
def guardOf (ops : Array Oper) : Option (Nat × Bool) → Option (Option (Nat × Bool))
  | none => some none
  | some (j, want) => match (ops[j]?).bind (·.dst) with
    | some t => some (some (t, want))
    | none => none

def compOps (P : Program) (nt : Nat) (hs : Hints) (id : Nat) (ops : Array Oper) : List (Nat) → Option (List AOper)
  | [] => some []
  | i :: l => match ops[i]? with
    | none => none
    | some o => match copT P (hs.contains (id, i)) o.op, guardOf ops o.guard, compOps P nt hs id ops l with
      | some ao, some gd, some rest => if dstOk nt o.dst then some (⟨o.dst, ao, gd⟩ :: rest) else none
      | _, _, _ => none

/-- Any two operations are either apart, or the later waits for the earlier. -/
def orderOk (ops : Array Oper) : Bool :=
  Region.noSelect ops && (List.range ops.size).all fun j => match ops[j]? with
    | none => true
    | some oj => (oj.after.all fun e => !Region.binds .any e || decide (e.on < j)) &&
        (List.range j).all fun i => match ops[i]? with
          | none => true
          | some oi => oj.after.any (fun e => Region.binds .any e && e.on == i) || oi.apart ops oj

def comp (P : Program) (nt : Nat) (hs : Hints) : Code → Option ACode
  | .skip => some .skip
  | .label _ => some .skip
  | .region id ops false => (compOps P nt hs id ops (List.range ops.size)).map .region
  | .region id ops true => if P.follows .mixedOrders && orderOk ops then (compOps P nt [] id ops (List.range ops.size)).map .draw else none
  | .seq a b => match comp P nt hs a, comp P nt hs b with | some x, some y => some (.seq x y) | _, _ => none
  | .cond c a b => match comp P nt hs a, comp P nt hs b with | some x, some y => some (.cond c x y) | _, _ => none
  | .block id c => (comp P nt hs c).map (.block id)
  | .loop c => (comp P nt hs c).map .loop
  | .exit id => some (.exit id)
  | .ret => some .ret
  | _ => none

/-- What is known of a guard. -/
inductive GuardIs where
  | yes (b : Bool) | never | unknown

def guardIs : AV → GuardIs
  | .lit (.bool b) => .yes b
  | .lit (.tuple _) => .never
  | _ => .unknown

/-- Either way of a test. -/
def Br (b : Bool) (A B : Prop) : Prop := (b = true → A) ∧ (b = false → B)

def aops (E : Env) (K : ASt → Prop) (Q : AEx → ASt → Prop) : List AOper → ASt → Prop
  | [], σ => K σ
  | o :: rest, σ => match o.guard with
    | none => aop E σ o.dst (fun σ' => aops E K Q rest σ') Q o.op
    | some (t, want) => match guardIs (look σ.tmps t) with
      | .yes b => Br (b == want) (aop E σ o.dst (fun σ' => aops E K Q rest σ') Q o.op) (aops E K Q rest (σ.putO o.dst (.lit undef)))
      | .never => aops E K Q rest (σ.putO o.dst (.lit undef))
      | .unknown => False

/-- An operation of a region whose order is open: it may come up whenever its edges let it. -/
def adop (E : Env) (h : List AObj) (ev : Operand → AV) (ao : AOp) (K : AV → Prop) : Prop :=
  match ao with
  | .buildSlice false k zero len parts =>
    (parts.map (·.1) = List.range len ∧ len * k ≤ 2 ^ 24 ∧ 0 < k ∧ zero.length = k ∧ (∀ p, p ∈ parts → (ev p.2).sure = true ∧ (ev p.2).cells.length = k ∧ (ev p.2).cells.all AV.one = true)) ∧
    K (.sl .full (parts.map fun (p : Nat × Operand) => ev p.2))
  | .toBytes x => (match ev x with | .lit (.string s) => K (.sl .unk (s.data.toList.map fun b => .lit (.int .u8 b.toNat))) | _ => False)
  | .call f args => (match ev f with
    | .fn (.func fid) first caps => ∃ v, EvR E fid (first.map AV.strip ++ args.map (fun x => ev x.1) ++ caps.map AV.strip) h v ∧ K v.strip
    | _ => False)
  | ao => vop h ev ao K

def adraw (E : Env) (K : ASt → Prop) : List AOper → ASt → Prop
  | [], σ => K σ
  | o :: rest, σ => match o.guard with
    | none => adop E σ.heap (σ.ev E) o.op fun v => adraw E K rest (σ.putO o.dst v)
    | some (t, want) => match guardIs (look σ.tmps t) with
      | .yes b => Br (b == want) (adop E σ.heap (σ.ev E) o.op fun v => adraw E K rest (σ.putO o.dst v)) (adraw E K rest (σ.putO o.dst (.lit undef)))
      | .never => adraw E K rest (σ.putO o.dst (.lit undef))
      | .unknown => False

/-- Less is known. -/
def Weak (σ σ' : ASt) : Prop := σ'.heap = σ.heap ∧ ∀ i, look σ'.tmps i = look σ.tmps i ∨ look σ'.tmps i = .any

def thenQ (K : ASt → Prop) (Q : AEx → ASt → Prop) : AEx → ASt → Prop
  | .normal, σ => K σ
  | .exit id, σ => Q (.exit id) σ
  | .ret, σ => Q .ret σ
  | .panic v, σ => Q (.panic v) σ

def blockQ (id : Nat) (Q : AEx → ASt → Prop) : AEx → ASt → Prop
  | .normal, σ => Q .normal σ
  | .exit id', σ => if id' = id then Q .normal σ else Q (.exit id') σ
  | .ret, σ => Q .ret σ
  | .panic v, σ => Q (.panic v) σ

def awp (E : Env) : ACode → (AEx → ASt → Prop) → ASt → Prop
  | .skip, Q, σ => Q .normal σ
  | .region ops, Q, σ => aops E (Q .normal) Q ops σ
  | .draw ops, Q, σ => adraw E (Q .normal) ops σ
  | .seq x y, Q, σ => awp E x (thenQ (awp E y Q) Q) σ
  | .cond c x y, Q, σ => (match σ.ev E c with
    | .lit (.bool b) => Br b (awp E x Q σ) (awp E y Q σ)
    | _ => False)
  | .block id c, Q, σ => awp E c (blockQ id Q) σ
  | .loop c, Q, σ => ∃ (I : Nat → ASt → Prop), (∃ n σ0, Weak σ σ0 ∧ I n σ0) ∧
      ∀ n σ', I n σ' → awp E c (thenQ (fun σ'' => ∃ m σ0, m < n ∧ Weak σ'' σ0 ∧ I m σ0) Q) σ'
  | .exit id, Q, σ => Q (.exit id) σ
  | .ret, Q, σ => Q .ret σ

/-! ### Soundness -/

theorem Weak.ra {E B σ σ' a w g} (hw : Weak σ σ') (h : RA E B σ a w g) : RA E B σ' a w g where
  nt := h.nt
  gok := h.gok
  gl := h.gl
  heap := by rw [hw.1]; exact h.heap
  st := h.st
  n0 := by rw [hw.1]; exact h.n0
  defers := h.defers
  tmps := fun i => by
    rw [hw.1]
    rcases hw.2 i with hi | hi
    · rw [hi]; exact h.tmps i
    · rw [hi]; exact ⟨by simp [Rep], trivial⟩

variable {E : Env} {B : Base} {σ : ASt} {a : Act} {w : World} {g : Gh} {K : ASt → Prop} {Q : AEx → ASt → Prop}

theorem op_sound {o : Oper} {ao : AOp} {tk : Bool} (hc : copT E.P tk o.op = some ao) (hd : DstOk B.nt o.dst) (hR : RA E B σ a w g) (hv : aop E σ o.dst K Q ao) :
    o.wp E.P a w (KC E B K) (QC E B Q) := by
  obtain ⟨dst, op, type, pos, after, guard⟩ := o
  unfold copT at hc
  cases tk with
  | true =>
    simp only [if_true] at hc
    split at hc
    · cases hc; exact op_take (.inl rfl) hd hR hv
    · cases hc; exact op_take (.inr rfl) hd hR hv
    · split at hc
      · rename_i heq
        cases hc
        simp only [cop] at heq
        split at heq
        · rename_i hu
          split at heq
          · rename_i hi
            split at heq
            · rename_i hz; cases heq; exact op_buildSlice rfl hu hi hz hd hR hv
            · cases heq
          · cases heq
        · cases heq
      · cases hc
    · cases hc
  | false =>
    simp only [Bool.false_eq_true, if_false] at hc
    by_cases hV : isV ao = true
    · refine op_vop hc hV hd hR ?_
      cases ao <;> first | exact hv | (simp [isV] at hV; done)
    · cases op with
      | convert src dst x =>
        simp only [cop] at hc
        split at hc
        · cases hc; exact absurd rfl hV
        · cases hc; exact absurd rfl hV
        · split at hc <;> cases hc; exact absurd rfl hV
        · rename_i h1 h2
          split at hc
          · rename_i h3; cases hc; exact op_toBytes rfl h1 h2 h3 hd hR hv
          · cases hc
        · rename_i h1 h2
          split at hc
          · rename_i h3
            split at hc
            · rename_i h4; cases hc; exact op_conv8 rfl h4 h1 h2 h3 hd hR hv
            · cases hc
          · cases hc
        · cases hc
      | box t x => simp only [cop] at hc; cases hc; exact op_box rfl hd hR hv
      | alloc t =>
        simp only [cop] at hc
        split at hc
        · rename_i hi
          split at hc
          · rename_i hz; cases hc; exact op_alloc rfl hi hz hd hR hv
          · cases hc
        · cases hc
      | store t x y =>
        simp only [cop] at hc
        split at hc
        · rename_i hi; cases hc; exact op_store rfl hi hd hR hv
        · cases hc
      | panic x => simp only [cop] at hc; cases hc; exact op_panic rfl hR hv
      | buildSlice t len parts =>
        simp only [cop] at hc
        split at hc
        · rename_i hu
          split at hc
          · rename_i hi
            split at hc
            · rename_i hz; cases hc; exact op_buildSlice rfl hu hi hz hd hR hv
            · cases hc
          · cases hc
        · cases hc
      | makeSlice t l c =>
        simp only [cop] at hc
        split at hc
        · split at hc
          · split at hc <;> cases hc; exact hv.elim
          · cases hc
        · cases hc
      | call c =>
        obtain ⟨callee, args, argTypes⟩ := c
        cases callee with
        | value f => simp only [cop] at hc; cases hc; exact op_call rfl hd hR hv
        | invoke r m => simp [cop] at hc
        | builtin b =>
          cases b <;> try (simp [cop] at hc; done)
          case len =>
            simp only [cop] at hc
            split at hc
            · split at hc <;> cases hc <;> exact absurd rfl hV
            · cases hc
          case max => simp only [cop] at hc; split at hc <;> cases hc; exact absurd rfl hV
          case min => simp only [cop] at hc; split at hc <;> cases hc; exact absurd rfl hV
          case append =>
            simp only [cop] at hc
            split at hc
            · rename_i s x t tx hs ht
              split at hc
              · rename_i e hu
                have fin : ∀ (inf : TypeInfo) (z : Value) (d : TypeDesc), E.P.info? e = some inf → E.P.underlying tx = some d → (∀ k, d ≠ .int k) → inf.zero = some z → ao = .append inf.size inf.bytes (z.cells.toList.map ofCell) s x →
                    Oper.wp E.P { dst := dst, op := .call { callee := .builtin .append, args := args, argTypes := argTypes }, type := type, pos := pos, after := after, guard := guard } a w (KC E B K) (QC E B Q) := by
                  intro inf z d hi hd2 hne hz hao
                  subst hao
                  exact op_append (ty := 0) rfl (Array.ext' (by simpa using hs)) (Array.ext' (by simpa using ht)) hu hd2 hne hi hz hd hR hv
                split at hc
                · rename_i hi hd2
                  split at hc
                  · rename_i hz; cases hc; exact fin _ _ _ hi hd2 (by simp) hz rfl
                  · cases hc
                · rename_i hi hd2
                  split at hc
                  · rename_i hz; cases hc; exact fin _ _ _ hi hd2 (by simp) hz rfl
                  · cases hc
                · cases hc
              · cases hc
            · cases hc
      | binOp op t x y ty =>
        simp only [cop] at hc
        split at hc
        · cases op <;> simp at hc <;> subst hc <;> exact absurd rfl hV
        · split at hc
          · cases hc; exact absurd rfl hV
          · split at hc
            · cases op <;> simp at hc <;> subst hc <;> exact absurd rfl hV
            · cases hc
      | slice t x lo hi mx =>
        cases mx with
        | some _ => simp [cop] at hc
        | none =>
          simp only [cop] at hc
          split at hc
          · cases hc; exact absurd rfl hV
          · split at hc <;> cases hc; exact absurd rfl hV
          · cases hc
      | fieldAddr s x f =>
        simp only [cop] at hc
        split at hc
        · split at hc
          · split at hc
            · split at hc <;> cases hc; exact absurd rfl hV
            · cases hc
          · cases hc
        · cases hc
      | field s x f =>
        simp only [cop] at hc
        split at hc
        · split at hc
          · split at hc <;> cases hc; exact absurd rfl hV
          · cases hc
        · cases hc
      | indexAddr t x i =>
        simp only [cop] at hc
        split at hc
        · split at hc <;> cases hc; exact absurd rfl hV
        · split at hc <;> cases hc; exact absurd rfl hV
        · cases hc
      | index t x i =>
        simp only [cop] at hc
        split at hc
        · cases hc; exact absurd rfl hV
        · split at hc <;> cases hc; exact absurd rfl hV
        · cases hc
      | load t x => simp only [cop] at hc; split at hc <;> cases hc; exact absurd rfl hV
      | makeInterface t x =>
        simp only [cop] at hc
        split at hc <;> cases hc; exact absurd rfl hV
      | build t parts =>
        simp only [cop] at hc
        split at hc
        · split at hc
          · split at hc <;> cases hc; exact absurd rfl hV
          · cases hc
        · split at hc
          · split at hc <;> cases hc; exact absurd rfl hV
          · cases hc
        · cases hc
      | move x => simp only [cop] at hc; cases hc; exact absurd rfl hV
      | assign x => simp only [cop] at hc; cases hc; exact absurd rfl hV
      | pick c a b => simp only [cop] at hc; cases hc; exact absurd rfl hV
      | nilCheck x => simp only [cop] at hc; cases hc; exact absurd rfl hV
      | unOp op t x => simp only [cop] at hc; cases hc; exact absurd rfl hV
      | extract x i => simp only [cop] at hc; cases hc; exact absurd rfl hV
      | makeFunc f first caps => simp only [cop] at hc; cases hc; exact absurd rfl hV
      | _ => simp [cop] at hc


theorem putO_undef {d : Option Nat} (hR : RA E B σ a w g) (hd : DstOk B.nt d) : RA E B (σ.putO d (.lit undef)) (a.put d undef) w g :=
  hR.putO hd (Rep.lit_iff.2 rfl) (fun _ => trivial)

theorem guard_wanted {ops : Array Oper} {o : Oper} {t : Nat} {want : Bool} (hg : guardOf ops o.guard = some (some (t, want))) (hR : RA E B σ a w g) :
    (∀ b, guardIs (look σ.tmps t) = .yes b → Region.wanted o (yielded ops a.tmps) = (b == want)) ∧
    (guardIs (look σ.tmps t) = .never → Region.wanted o (yielded ops a.tmps) = false) := by
  unfold guardOf at hg
  split at hg
  · cases hg
  · rename_i j want' hgd
    split at hg
    · rename_i t' ht
      cases hg
      have hr := (hR.tmps t).1
      have hy : yielded ops a.tmps j = match a.tmps[t]? with | some (.bool b) => some b | _ => none := by
        simp only [yielded, ht, Option.bind_some]
        cases a.tmps[t]? with
        | none => rfl
        | some v => cases v <;> rfl
      constructor
      · intro b hb
        unfold guardIs at hb
        split at hb <;> cases hb
        rename_i hl
        rw [hl, Rep.lit_iff] at hr
        have hs : a.tmps[t]? = some (.bool b) := by
          rw [Array.getD_eq_getD_getElem?] at hr
          cases h : a.tmps[t]? with
          | none => rw [h] at hr; cases hr
          | some v => rw [h] at hr; simpa using hr
        simp only [Region.wanted, hgd, hy, hs]
        cases b <;> cases want <;> rfl
      · intro hb
        unfold guardIs at hb
        split at hb <;> cases hb
        rename_i vs hl
        rw [hl, Rep.lit_iff] at hr
        simp only [Region.wanted, hgd, hy]
        rw [Array.getD_eq_getD_getElem?] at hr
        cases h : a.tmps[t]? with
        | none => rfl
        | some v => rw [h] at hr; simp at hr; rw [hr]; rfl
    · cases hg

theorem dstOk_spec {nt : Nat} {d : Option Nat} (h : dstOk nt d = true) : DstOk nt d := by
  intro i hi; subst hi; simpa [dstOk] using h

theorem aops_sound {ops : Array Oper} {hs : Hints} {id : Nat} : ∀ (l : List Nat) (as : List AOper) (σ : ASt) (a : Act) (w : World) (g : Gh), compOps E.P B.nt hs id ops l = some as →
    RA E B σ a w g → aops E (Q .normal) Q as σ → wpOps E.P ops (QC E B Q) l a w
  | [], as, σ, a, w, g, hc, hR, hv => by
    simp [compOps] at hc; subst hc
    exact ⟨.normal, σ, g, hv, rfl, hR⟩
  | i :: l, as, σ, a, w, g, hc, hR, hv => by
    unfold compOps at hc
    split at hc
    · cases hc
    · rename_i o ho
      split at hc
      · rename_i ao gd rest hao hgd hrest
        split at hc
        · rename_i hd
          cases hc
          have hd' := dstOk_spec hd
          have ih := fun σ a w g => aops_sound l rest σ a w g hrest
          have hop : ∀ (hv : aop E σ o.dst (fun σ' => aops E (Q .normal) Q rest σ') Q ao), o.wp E.P a w (wpOps E.P ops (QC E B Q) l) (QC E B Q) := fun hv =>
            Oper.wp_mono (fun a w ⟨σ', g', hk, hR'⟩ => ih σ' a w g' hR' hk) (op_sound hao hd' hR hv)
          simp only [wpOps, ho]
          simp only [aops] at hv
          cases gd with
          | none =>
            have hgn : o.guard = none := by
              unfold guardOf at hgd
              split at hgd
              · assumption
              · split at hgd <;> cases hgd
            rw [if_pos (by simp [Region.wanted, hgn])]
            exact .inl (hop hv)
          | some tw =>
            obtain ⟨t, want⟩ := tw
            obtain ⟨h1, h2⟩ := guard_wanted hgd hR
            simp only at hv
            split at hv
            · rename_i b hb
              rw [h1 b hb]
              by_cases hbw : (b == want) = true
              · rw [if_pos hbw]; exact .inl (hop (hv.1 hbw))
              · rw [if_neg hbw]
                exact ih _ _ _ _ (putO_undef hR hd') (hv.2 (by simpa using hbw))
            · rename_i hb
              rw [h2 hb, if_neg (by simp)]
              exact ih _ _ _ _ (putO_undef hR hd') hv
            · exact hv.elim
        · cases hc
      · cases hc

end Go.Abs
