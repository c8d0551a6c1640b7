/- The operations that act. -/
import Derived.Test.YtloimemacnjpgaaGreatAbsG
set_option linter.all false
namespace Go.Abs
open Go Go.RowKit

def ASt.raw (E : Env) (σ : ASt) : Operand → AV
  | .tmp t => look σ.tmps t
  | x => σ.ev E x

def ASt.taken (σ : ASt) : Operand → ASt
  | .tmp t => { σ with tmps := (t, (look σ.tmps t).strip) :: σ.tmps }
  | _ => σ

def isTmp (i : Nat) : Operand → Bool
  | .tmp t => t == i
  | _ => false

def allOne (es : List AV) : Prop := ∀ e, e ∈ es → e.cells.all AV.one = true

def fnOf (E : Env) (σ : ASt) (x : Operand) : Option (FuncId × List AV × List AV) :=
  match σ.ev E x with
  | .fn (.func f) first caps => some (f, first, caps)
  | _ => none

def aop (E : Env) (σ : ASt) (d : Option Nat) (K : ASt → Prop) (Q : AEx → ASt → Prop) : AOp → Prop
  | .take t => (match d with
    | some i => t ≠ i ∧ K { σ with tmps := (i, look σ.tmps t) :: (t, (look σ.tmps t).strip) :: σ.tmps }
    | none => False)
  | .box x => (σ.ev E x).sure = true ∧ K ({ σ with heap := σ.heap ++ [AObj.cells ((σ.ev E x).cells.map AV.strip)] }.putO d (.ref σ.heap.length 0))
  | .boxB e te x => (match σ.ev E x with
    | .agg (.lit (.pointer none) :: .lit (.slice none 0 0) :: rest) => K ({ σ with heap := σ.heap ++ [AObj.cells (.bp e :: .buf te [] :: rest.map AV.strip)] }.putO d (.ref σ.heap.length 0))
    | _ => False)
  | .alloc zero => K ({ σ with heap := σ.heap ++ [AObj.cells zero] }.putO d (.ref σ.heap.length 0))
  | .store n x y => (match σ.ev E x with
    | .ref id off => (match σ.heap[id]? with
      | some (.cells l) => ((σ.ev E y).sure = true ∧ (σ.ev E y).cells.length = n ∧ off + n ≤ l.length ∧ (σ.ev E y).cells.all AV.one = true) ∧
          K ({ σ with heap := σ.heap.set id (AObj.cells (setMany l off ((σ.ev E y).cells.map AV.strip))) }.putO d .any)
      | _ => False)
    | _ => False)
  | .append k bytes zero s x => (match d, σ.raw E s, argElems (σ.ev E x) with
    | some i, .sl c es, some xs =>
      (isTmp i s = false ∧ 0 < k ∧ zero.length = k) ∧ (c = .own k ∨ (c = .full ∧ Fit k es)) ∧ Fit k xs ∧ allOne xs ∧
      ((2 * (es.length + xs.length) + 192) * bytes ≤ 2 ^ 48 ∧ es.length + xs.length < 2 ^ 62) ∧
      K { σ with tmps := (i, .sl (.own k) (es ++ xs)) :: (σ.taken s).tmps }
    | _, _, _ => False)
  | .toBytes x => (match d, σ.ev E x with
    | some i, .lit (.string s) => s.size < 2 ^ 62 ∧ K (σ.put i (.sl (.own 1) (s.data.toList.map fun b => .lit (.int .u8 b.toNat))))
    | _, _ => False)
  | .buildSlice obj k zero len parts =>
    (parts.map (·.1) = List.range len ∧ len * k ≤ 2 ^ 24 ∧ 0 < k ∧ zero.length = k ∧ (∀ p, p ∈ parts → (σ.ev E p.2).sure = true ∧ (σ.ev E p.2).cells.length = k ∧ (σ.ev E p.2).cells.all AV.one = true)) ∧
    (if obj then K ({ σ with heap := σ.heap ++ [AObj.cells ((flatC (parts.map fun (p : Nat × Operand) => σ.ev E p.2)).map AV.strip)] }.putO d (.vw σ.heap.length 0 len len))
     else K (σ.putO d (.sl .full (parts.map fun (p : Nat × Operand) => σ.ev E p.2))))
  | .call f args => (match fnOf E σ f with
    | some (fid, first, caps) => Ev E fid (first.map AV.strip ++ args.map (fun x => σ.ev E x.1) ++ caps.map AV.strip) σ.heap (fun r h' => match r with
      | .ret v => K ({ σ with heap := h' }.putO d v.strip)
      | .panic v => Q (.panic v) { σ with heap := h' })
    | none => False)
  | .panic x => (match σ.ev E x with | .ifc t v => Q (.panic (.ifc t v)) σ | _ => False)
  | .conv8 x => (match σ.ev E x with
    | .vw id off len _ => (match σ.heap[id]? with
      | some (.cells l) => (off = 0 ∧ l.length = len ∧ l.all AV.one = true ∧ (∀ av, av ∈ l → av.sure = true ∧ av.cells = [av])) ∧ K ({ σ with heap := σ.heap.set id .gone }.putO d (.sl .unk l))
      | _ => False)
    | _ => False)
  | .appendO k bytes zero s x => (match σ.ev E s, argElems (σ.ev E x) with
    | .vw id off len cap, some xs => (match σ.heap[id]? with
      | some (.cells l) => (0 < k ∧ zero.length = k ∧ Fit k xs ∧ allOne xs ∧ off + len * k ≤ l.length ∧ (2 * (len + xs.length) + 192) * bytes ≤ 2 ^ 48 ∧ len + xs.length < 2 ^ 62) ∧
          (len + xs.length ≤ cap → off + (len + xs.length) * k ≤ l.length ∧ K ({ σ with heap := σ.heap.set id (AObj.cells (setMany l (off + len * k) ((flatC xs).map AV.strip))) }.putO d (.vw id off (len + xs.length) cap))) ∧
          (cap < len + xs.length → ∀ cap', len + xs.length ≤ cap' →
            K ({ σ with heap := σ.heap ++ [AObj.cells (((l.drop off).take (len * k)).map AV.strip ++ (flatC xs).map AV.strip ++ zerosL (cap' - (len + xs.length)) zero)] }.putO d (.vw σ.heap.length 0 (len + xs.length) cap')))
      | _ => False)
    | .sl .full es, some xs => (0 < k ∧ zero.length = k ∧ Fit k es ∧ Fit k xs ∧ allOne xs ∧ (2 * (es.length + xs.length) + 192) * bytes ≤ 2 ^ 48 ∧ es.length + xs.length < 2 ^ 62) ∧
        (xs = [] → es = [] ∧ K (σ.putO d (.sl .full []))) ∧
        (xs ≠ [] → ∀ cap', es.length + xs.length ≤ cap' →
          K ({ σ with heap := σ.heap ++ [AObj.cells ((flatC es).map AV.strip ++ (flatC xs).map AV.strip ++ zerosL (cap' - (es.length + xs.length)) zero)] }.putO d (.vw σ.heap.length 0 (es.length + xs.length) cap')))
    | _, _ => False)
  | .makeSlice _ k bytes zero x y => (match σ.ev E x, σ.ev E y with
    | .lit (.int _ l), .lit (.int _ c) => (0 ≤ l ∧ l ≤ c ∧ 0 < k ∧ zero.length = k ∧ (bytes : Int) * c ≤ 2 ^ 48 ∧ c < 2 ^ 62) ∧
        K ({ σ with heap := σ.heap ++ [AObj.cells (zerosL c.toNat zero)] }.putO d (.vw σ.heap.length 0 l.toNat c.toNat))
    | _, _ => False)
  | .appendZ k bytes zero s x => (match σ.ev E s, σ.ev E x with
    | .sl .full [], .lit (.int _ m) => (0 ≤ m ∧ 0 < k ∧ zero.length = k ∧ (2 * m + 192) * (bytes : Int) ≤ 2 ^ 48 ∧ m < 2 ^ 62) ∧ (m = 0 → K (σ.putO d (.sl .full []))) ∧
        (0 < m → ∀ cap', m.toNat ≤ cap' → K ({ σ with heap := σ.heap ++ [AObj.cells (zerosL m.toNat zero ++ zerosL (cap' - m.toNat) zero)] }.putO d (.vw σ.heap.length 0 m.toNat cap')))
    | _, _ => False)
  | .eqNil neg x => (match σ.ev E x with
    | .vw _ _ _ _ => K (σ.putO d (.lit (.bool neg)))
    | .sl _ [] => ∀ b, K (σ.putO d (.lit (.bool b)))
    | .sl _ (_ :: _) => K (σ.putO d (.lit (.bool neg)))
    | _ => False)
  | .clearS k zero x => (match σ.ev E x with
    | .vw id off len _ => (match σ.heap[id]? with
      | some (.cells l) => (zero.length = k ∧ off + len * k ≤ l.length ∧ zero.all AV.one = true) ∧ K ({ σ with heap := σ.heap.set id (AObj.cells (setMany l off (zerosL len zero))) }.putO d (.tup []))
      | _ => False)
    | _ => False)
  | .makeMap kk => K ({ σ with heap := σ.heap ++ [AObj.map kk []] }.putO d (.mp σ.heap.length))
  | .mapSet kk m k v => (match σ.ev E m, avKey kk (σ.ev E k) with
    | .mp id, some key => (match σ.heap[id]? with
      | some (.map kk' es) => kk' = kk ∧ K ({ σ with heap := σ.heap.set id (AObj.map kk (mput es key (σ.ev E v).strip)) }.putO d .any)
      | _ => False)
    | _, _ => False)
  | ao => vop σ.heap (σ.ev E) ao fun v => K (σ.putO d v)

variable {E : Env} {B : Base} {σ : ASt} {a : Act} {w : World} {g : Gh} {K : ASt → Prop} {Q : AEx → ASt → Prop} {o : Oper}

theorem wp_value {P : Program} {o : Oper} {a : Act} {w w' : World} {v : Value} {K : Act → World → Prop} {Q : Exit → Act → World → Prop} (h : (execOp a.eval o).run P w = .ok (.value v) w') (hk : K (a.put o.dst v) w') : o.wp P a w K Q := by
  unfold Oper.wp; rw [h]; exact hk
theorem wp_skipv {P : Program} {o : Oper} {a : Act} {w w' : World} {K : Act → World → Prop} {Q : Exit → Act → World → Prop} (h : (execOp a.eval o).run P w = .ok .skip w') (hk : K (a.put o.dst undef) w') : o.wp P a w K Q := by
  unfold Oper.wp; rw [h]; exact hk

def DstOk (nt : Nat) (d : Option Nat) : Prop := ∀ i, d = some i → i < nt

theorem op_vop {ao : AOp} (hc : cop E.P o.op = some ao) (hV : isV ao = true) (hd : DstOk B.nt o.dst) (hR : RA E B σ a w g) (hv : vop σ.heap (σ.ev E) ao fun v => K (σ.putO o.dst v)) :
    o.wp E.P a w (KC E B K) (QC E B Q) := by
  obtain ⟨v, av, h1, h2, h3, h4⟩ := vop_sound hc hV hR.heap (fun x => ASt.ev_rep hR x) (fun x => ASt.ev_noOwn x) hv
  exact wp_value h1 ⟨_, g, h4, hR.putO hd h2 (fun _ => h3.spare)⟩

theorem op_take {t : Nat} (ho : o.op = .move (.tmp t) ∨ o.op = .assign (.tmp t)) (hd : DstOk B.nt o.dst) (hR : RA E B σ a w g) (hv : aop E σ o.dst K Q (.take t)) :
    o.wp E.P a w (KC E B K) (QC E B Q) := by
  have hrun : (execOp a.eval o).run E.P w = .ok (.value (a.tmps.getD t undef)) w := by
    unfold execOp; rcases ho with ho | ho <;> simp [ho, Act.eval]
  simp only [aop] at hv
  split at hv
  · rename_i i hi
    refine wp_value hrun ?_
    rw [hi]
    exact ⟨_, _, hv.2, hR.take (hd i hi) hv.1⟩
  · exact hv.elim

theorem Reps.stripAll {n : Nat} : ∀ {as : List AV} {vs : List Value}, Reps w g n as vs → Reps w g n (as.map AV.strip) vs
  | [], _, h => h
  | a :: as, vs, h => by
    obtain ⟨v, rest, rfl, h1, h2⟩ := Reps.cons.1 h
    exact Reps.cons'.2 ⟨h1.strip, Reps.stripAll h2⟩

theorem noOwn_stripAll (l : List AV) : ∀ av ∈ l.map AV.strip, NoOwn av := by
  intro av h
  obtain ⟨x, _, rfl⟩ := List.mem_map.1 h
  exact NoOwn.strip _

theorem op_box {t : TypeId} {x : Operand} (ho : o.op = .box t x) (hd : DstOk B.nt o.dst) (hR : RA E B σ a w g) (hv : aop E σ o.dst K Q (.box x)) :
    o.wp E.P a w (KC E B K) (QC E B Q) := by
  simp only [aop] at hv
  obtain ⟨hs, hk⟩ := hv
  have hr := (ASt.ev_rep hR x).cells hs
  obtain ⟨h1, h2⟩ := hR.newObj (e := t) (Reps.stripAll hr) (noOwn_stripAll _)
  refine wp_value (v := .pointer (some ⟨w.heap.size, 0, none⟩)) (w' := w.alloc (.cells (a.eval x).cells t)) (by unfold execOp; simp [ho, Instr.box, newVar, newRow]) ⟨_, g.newObj w.heap.size σ.heap.length, hk, ?_⟩
  refine h1.putO hd ?_ (fun _ => (NoOwn.ref _ _).spare)
  simp only [Rep, h2]
  exact ⟨trivial, by simp⟩

theorem op_boxB {t te : TypeId} {x : Operand} (ho : o.op = .box t x) (hd : DstOk B.nt o.dst) (hR : RA E B σ a w g) (hv : aop E σ o.dst K Q (.boxB t te x)) :
    o.wp E.P a w (KC E B K) (QC E B Q) := by
  simp only [aop] at hv
  split at hv
  · rename_i rest hx
    have hr := ASt.ev_rep hR x
    rw [hx] at hr
    simp only [Rep] at hr
    obtain ⟨vs, hvs, hr⟩ := hr
    obtain ⟨v0, r0, e0, h0, hr1⟩ := Reps.cons.1 hr
    obtain ⟨v1, r1, e1, h1, hr2⟩ := Reps.cons.1 hr1
    rw [Rep.lit_iff] at h0 h1
    subst h0 h1 e1
    obtain ⟨q1, q2⟩ := hR.newBld (e := t) (te := te) (Reps.stripAll hr2) (noOwn_stripAll _)
    have hcells : (a.eval x).cells = (Value.pointer none :: Value.slice none 0 0 :: r1).toArray := by rw [hvs]; simp only [Value.cells]; rw [← e0]
    refine wp_value (v := .pointer (some ⟨w.heap.size, 0, none⟩)) (w' := w.alloc (.cells (a.eval x).cells t)) (by unfold execOp; simp [ho, Instr.box, newVar, newRow]) ⟨_, g.newObj w.heap.size σ.heap.length, hv, ?_⟩
    rw [hcells]
    refine q1.putO hd ?_ (fun _ => (NoOwn.ref _ _).spare)
    simp only [Rep, q2]
    exact ⟨trivial, by simp⟩
  · exact hv.elim

theorem op_alloc {t : TypeId} {inf : TypeInfo} {z : Value} (ho : o.op = .alloc t) (hi : E.P.info? t = some inf) (hz : inf.zero = some z) (hd : DstOk B.nt o.dst) (hR : RA E B σ a w g)
    (hv : aop E σ o.dst K Q (.alloc (z.cells.toList.map ofCell))) : o.wp E.P a w (KC E B K) (QC E B Q) := by
  simp only [aop] at hv
  obtain ⟨h1, h2⟩ := hR.newObj (l := z.cells.toList.map ofCell) (vs := z.cells) (e := t) (Reps.ofCells _) (by intro av h; obtain ⟨x, _, rfl⟩ := List.mem_map.1 h; exact ofCell_noOwn _)
  refine wp_value (v := .pointer (some ⟨w.heap.size, 0, none⟩)) (w' := w.alloc (.cells z.cells t)) (by unfold execOp; simp [ho, Instr.alloc, newVar, newRow, zeroValue, run_inf hi, hz]) ⟨_, g.newObj w.heap.size σ.heap.length, hv, ?_⟩
  refine h1.putO hd ?_ (fun _ => (NoOwn.ref _ _).spare)
  simp only [Rep, h2]
  exact ⟨trivial, by simp⟩

theorem op_store {t : TypeId} {inf : TypeInfo} {x y : Operand} (ho : o.op = .store t x y) (hi : E.P.info? t = some inf) (hd : DstOk B.nt o.dst) (hR : RA E B σ a w g)
    (hv : aop E σ o.dst K Q (.store inf.size x y)) : o.wp E.P a w (KC E B K) (QC E B Q) := by
  simp only [aop] at hv
  split at hv
  · rename_i id off hx
    split at hv
    · rename_i l hl
      obtain ⟨⟨hs, hn, hle, hone⟩, hk⟩ := hv
      have hrx := ASt.ev_rep hR x
      rw [hx] at hrx
      simp only [Rep] at hrx
      obtain ⟨hp, _⟩ := hrx
      have hry := (ASt.ev_rep hR y).cells hs
      have hsz : (a.eval y).cells.size = inf.size := by have := hry.length; simp at this; omega
      obtain ⟨cs, e, hc⟩ := hR.heap.cells id l hl
      have hrun : (storeCells ⟨g.loc id, off, none⟩ (a.eval y).cells.toList).run E.P w = .ok () (setRow w (g.loc id) off (a.eval y).cells.toList) := by
        have := run_storeCells (P := E.P) (a.eval y).cells.toList w (g.loc id) off 0 (Reps.ones hone hry) ?_
        · simpa using this
        · intro j hj
          simp at hj
          refine ⟨?_, by rw [frozen_of_block hc.blk]; simp⟩
          rw [cell_of_heap hc.blk]
          exact ⟨_, Array.getElem?_eq_getElem (by rw [hc.size]; omega)⟩
      have hw := hR.write (off := off) (vs := (a.eval y).cells.toList) hl (Reps.stripAll hry) (noOwn_stripAll _) (by simp; omega)
      refine wp_skipv (w' := setRow w (g.loc id) off (a.eval y).cells.toList) ?_ ⟨_, g, hk, ?_⟩
      · unfold execOp
        simp only [ho, Instr.storeAt, hp, Instr.sureAddr, Sem.run_bind, Sem.run_pure, Result.andThen_ok, storeVar, run_siz hi]
        rw [if_neg (by simp [hsz])]
        simp only [Sem.run_bind, Sem.run_pure, Result.andThen_ok, hrun]
      · exact hw.putO (av := .any) (v := undef) hd (by simp [Rep]) (fun _ => trivial)
    · exact hv.elim
  · exact hv.elim

theorem op_panic {x : Operand} (ho : o.op = .panic x) (hR : RA E B σ a w g) (hv : aop E σ o.dst K Q (.panic x)) : o.wp E.P a w (KC E B K) (QC E B Q) := by
  simp only [aop] at hv
  split at hv
  · rename_i t v hx
    have hr := ASt.ev_rep hR x
    rw [hx] at hr
    have hr' := hr
    simp only [Rep] at hr'
    obtain ⟨y, hy, _⟩ := hr'
    rw [hy] at hr
    have hrun : (execOp a.eval o).run E.P w = .halt (.panic (.iface t y)) w := by
      unfold execOp; simp [ho, Instr.panic, hy]
    unfold Oper.wp
    rw [hrun]
    exact ⟨.panic (.ifc t v), σ, g, hv, ⟨_, rfl, hr⟩, hR⟩
  · exact hv.elim

theorem op_makeMap {t : TypeId} {kk : KK} (ho : o.op = .makeMap t none) (hd : DstOk B.nt o.dst) (hR : RA E B σ a w g)
    (hv : aop E σ o.dst K Q (.makeMap kk)) : o.wp E.P a w (KC E B K) (QC E B Q) := by
  simp only [aop] at hv
  obtain ⟨g', h1, h2⟩ := hR.newOf (.map #[] 0) (.map kk []) (fun w' g' hl h1 h2 h3 => ⟨#[], 0, by rw [h1]; exact h2, fun off => by rw [h1]; exact h3 off, rfl, by simp [Reps], by simp, by simp, by simp⟩)
  refine wp_value (v := .map (some w.heap.size)) (w' := w.alloc (.map #[] 0)) (by unfold execOp; simp [ho, Instr.makeMap]) ⟨_, g', hv, ?_⟩
  refine h1.putO hd ?_ (fun _ => trivial)
  simp only [Rep, h2]
  exact ⟨trivial, by simp⟩

theorem strip_strip (v : AV) : v.strip.strip = v.strip := by
  cases v <;> try rfl
  rename_i c es
  cases c <;> rfl

theorem sameBits_key {kk : KK} {x : Value} (h : keyIs kk x = true) : Instr.sameBits 10000 x x = true := by
  cases kk with
  | str => obtain ⟨s, rfl⟩ := keyIs_str h; simp only [Instr.sameBits]; obtain ⟨y⟩ := s; show (y == y) = true; simp
  | int k => obtain ⟨s, rfl⟩ := keyIs_int h; simp [Instr.sameBits]
  | ints n =>
    obtain ⟨cs, rfl, -, h2⟩ := keyIs_ints h
    simp only [Instr.sameBits, beq_self_eq_true, Bool.true_and, List.all_eq_true]
    rintro ⟨a, b⟩ hab
    have hz : ∀ (l : List Value) (a b : Value), (a, b) ∈ l.zip l → a = b ∧ a ∈ l := by
      intro l
      induction l with
      | nil => intro a b hh; simp at hh
      | cons c l ih =>
        intro a b hh
        simp only [List.zip_cons_cons, List.mem_cons, Prod.mk.injEq] at hh
        rcases hh with ⟨rfl, rfl⟩ | hh
        · exact ⟨rfl, by simp⟩
        · obtain ⟨h1, h2⟩ := ih a b hh; exact ⟨h1, by simp [h2]⟩
    obtain ⟨rfl, hm⟩ := hz _ _ _ hab
    obtain ⟨n, rfl⟩ := isI64_spec (List.all_eq_true.1 h2 _ hm)
    simp [Instr.sameBits]

theorem op_mapSet {t k e : TypeId} {kk : KK} {m x y : Operand} (ho : o.op = .mapUpdate t m x y ∨ o.op = .insert t m x y) (hu : E.P.underlying t = some (.map k e)) (hk : kkOf E.P k = some kk) (hd : DstOk B.nt o.dst) (hR : RA E B σ a w g)
    (hv : aop E σ o.dst K Q (.mapSet kk m x y)) : o.wp E.P a w (KC E B K) (QC E B Q) := by
  simp only [aop] at hv
  split at hv
  · rename_i id key e1 e2
    have hx := ASt.ev_rep hR m
    rw [e1] at hx
    simp only [Rep] at hx
    obtain ⟨hk1, hk2⟩ := avKey_spec e2 (ASt.ev_rep hR x)
    split at hv
    · rename_i kk' es hl
      obtain ⟨rfl, hv⟩ := hv
      obtain ⟨en, clock, q1, q2, q3, q4, q5, q6, q7⟩ := hR.heap.map id _ es hl
      have hkeys : ∀ x, x ∈ en.toList → keyIs kk' x.key = true := fun x hx => by
        have : x.key ∈ es.map (·.1) := by rw [← q3]; exact List.mem_map_of_mem hx
        obtain ⟨p, hp, he⟩ := List.mem_map.1 this
        rw [← he]; exact (q5 p hp).1
      have hf := findKey_run (w := w) hk hk2 hkeys
      have hm := mfind_mix (w := w) (g := g) en.toList es key 0 q3 q4
      have hc := checkKey_run (w := w) hk hk2 (em := false)
      have hgo := run_getObj (P := E.P) q1
      have hry := (ASt.ev_rep hR y).strip
      have hlt : g.loc id < w.heap.size := lt_of_heap q1
      have hset : ∀ o', (setObj (g.loc id) o').run E.P w = .ok () { w with heap := w.heap.setIfInBounds (g.loc id) o' } := fun o' => by simp [setObj, Sem.run, q1]
      cases hq : mix es key with
      | none =>
        rw [hq] at hm
        simp only at hm
        have hput : mput es key (σ.ev E y).strip = es ++ [(key, (σ.ev E y).strip)] := by simp [mput, hq]
        have hw := hR.setMap (es' := mput es key (σ.ev E y).strip) (en' := en.push { key := key, val := a.eval y, born := clock }) (clock' := clock + 1) hl
          (by rw [hput]; simp [q3]) (by rw [hput]; simp only [Array.toList_push, List.map_append, List.map_cons, List.map_nil]; exact Reps.append q4 (Reps.cons'.2 ⟨hry, by simp [Reps]⟩))
          (by rw [hput]; intro p hp; rcases List.mem_append.1 hp with hp | hp
              · exact q5 p hp
              · simp only [List.mem_singleton] at hp; subst hp; exact ⟨hk2, strip_strip _⟩)
          (by intro x hx; simp only [Array.toList_push, List.mem_append, List.mem_singleton] at hx
              rcases hx with hx | rfl
              · exact Nat.lt_succ_of_lt (q6 x hx)
              · exact Nat.lt_succ_self _)
          (by simp only [Array.toList_push, List.map_append, List.map_cons, List.map_nil]
              refine List.pairwise_append.2 ⟨q7, by simp, ?_⟩
              intro b hb c hc
              obtain ⟨x, hx, rfl⟩ := List.mem_map.1 hb
              simp only [List.mem_singleton] at hc; subst hc
              exact q6 x hx)
        refine wp_skipv (w' := { w with heap := w.heap.setIfInBounds (g.loc id) (.map (en.push { key := key, val := a.eval y, born := clock }) (clock + 1)) }) ?_ ⟨_, g, hv, hw.putO (av := .any) (v := undef) hd (by simp [Rep]) (fun _ => trivial)⟩
        unfold execOp
        rcases ho with ho | ho <;>
        simp only [ho, hx.1, hk1, Instr.mapUpdate, Sem.run_bind, run_und hu, Result.andThen_ok, hgo, hc, hf, hm, hset, Sem.run_pure]
      | some j =>
        rw [hq] at hm
        simp only at hm
        obtain ⟨e', p, r1, r2, r3, r4, r5, r6⟩ := hm
        have hput : mput es key (σ.ev E y).strip = es.set j (key, (σ.ev E y).strip) := by simp [mput, hq]
        have hjl : j < en.size := by have := (List.getElem?_eq_some_iff.1 r1).1; simpa using this
        have hek : e'.key = key := (sameKey_eq hk2 (hkeys e' (List.mem_of_getElem? r1)) r6).symm
        have hmod : (en.modify j fun e => { e with key := key, val := a.eval y }).toList = en.toList.set j { e' with key := key, val := a.eval y } := by
          apply List.ext_getElem?
          intro i
          rw [Array.toList_modify, List.getElem?_modify, List.getElem?_set]
          by_cases hij : j = i
          · subst hij
            rw [if_pos rfl, if_pos (by simpa using hjl), r1]; simp
          · rw [if_neg hij]; simp [hij]
        have hkset : (en.toList.map (·.key)).set j key = en.toList.map (·.key) := by
          apply List.ext_getElem?
          intro i
          rw [List.getElem?_set]
          split
          · rename_i hij; subst hij
            split
            · rw [List.getElem?_map, r1]; simp [hek]
            · rename_i hn; rw [List.getElem?_eq_none (by simpa using hn)]
          · rfl
        have hbset : (en.toList.map (·.born)).set j e'.born = en.toList.map (·.born) := by
          apply List.ext_getElem?
          intro i
          rw [List.getElem?_set]
          split
          · rename_i hij; subst hij
            split
            · rw [List.getElem?_map, r1]; simp
            · rename_i hn; rw [List.getElem?_eq_none (by simpa using hn)]
          · rfl
        have hw := hR.setMap (es' := mput es key (σ.ev E y).strip) (en' := en.modify j fun e => { e with key := key, val := a.eval y }) (clock' := clock) hl
          (by rw [hput, hmod, List.map_set, List.map_set]; simp only; rw [← q3])
          (by rw [hput, hmod, List.map_set, List.map_set]; exact q4.set j hry)
          (by rw [hput]; intro p hp; rcases List.mem_or_eq_of_mem_set hp with hp | hp
              · exact q5 p hp
              · subst hp; exact ⟨hk2, strip_strip _⟩)
          (by rw [hmod]; intro x hx; rcases List.mem_or_eq_of_mem_set hx with hx | hx
              · exact q6 x hx
              · subst hx; exact q6 e' (List.mem_of_getElem? r1))
          (by rw [hmod, List.map_set]; simp only; rw [hbset]; exact q7)
        refine wp_skipv (w' := { w with heap := w.heap.setIfInBounds (g.loc id) (.map (en.modify j fun e => { e with key := key, val := a.eval y }) clock) }) ?_ ⟨_, g, hv, hw.putO (av := .any) (v := undef) hd (by simp [Rep]) (fun _ => trivial)⟩
        have hstay : (Instr.keyThatStays (((en[j]?).map (·.key)).getD key) key).run E.P w = .ok key w := by
          have : en[j]? = some e' := by simpa using r1
          rw [this]
          simp only [Option.map_some, Option.getD_some, hek, Instr.keyThatStays, sameBits_key hk2, if_true, Sem.run_pure]
        simp only [Nat.zero_add] at r2
        unfold execOp
        rcases ho with ho | ho <;>
        simp only [ho, hx.1, hk1, Instr.mapUpdate, Sem.run_bind, run_und hu, Result.andThen_ok, hgo, hc, hf, r2, hset, hstay, Sem.run_pure]
    · exact hv.elim
  · exact hv.elim

theorem taken_ra {x : Operand} {d : Nat} (hR : RA E B σ a w g) (hd : d < B.nt) (hx : isTmp d x = false) :
    ∃ g', RA E B { σ with tmps := (d, σ.raw E x) :: (σ.taken x).tmps } (a.put (some d) (a.eval x)) w g' ∧ Later w g σ.heap.length w g' σ.heap.length := by
  cases x with
  | tmp t =>
    have htd : t ≠ d := by simpa [isTmp] using hx
    exact ⟨_, hR.take hd htd, later_re⟩
  | const v => exact ⟨g, hR.put (v := a.eval (.const v)) (av := σ.ev E (.const v)) hd (ASt.ev_rep hR (.const v)) (ASt.ev_noOwn (.const v)).spare, Later.refl _ _ _⟩
  | global i => exact ⟨g, hR.put (v := a.eval (.global i)) (av := σ.ev E (.global i)) hd (ASt.ev_rep hR (.global i)) (ASt.ev_noOwn (.global i)).spare, Later.refl _ _ _⟩
  | func i => exact ⟨g, hR.put (v := a.eval (.func i)) (av := σ.ev E (.func i)) hd (ASt.ev_rep hR (.func i)) (ASt.ev_noOwn (.func i)).spare, Later.refl _ _ _⟩

theorem put_put (a : Act) (i : Nat) (u v : Value) : (a.put (some i) u).put (some i) v = a.put (some i) v := by
  simp [Act.put]

theorem later_drew {w g n} : Later w g n w.drew g n := ⟨Nat.le_refl _, fun _ _ => rfl, fun _ _ _ h h' => ⟨h, h'⟩, fun _ _ h h' => ⟨h, h'⟩⟩
theorem later_undrew {w g n w' g' n'} (h : Later w g n w' g' n') : Later w.drew g n w' g' n' := ⟨h.le, h.loc, h.com, h.blk⟩
theorem Rep.drew {w g n} {av : AV} {v : Value} (h : Rep w g n av v) : Rep w.drew g n av v := Rep.later later_drew _ _ h

theorem Els.copy {w g n k} : ∀ {es : List AV} {b off : Nat}, Els w g n es b off k → ∃ vs, vs.length = es.length * k ∧ Holds w g b off vs ∧
    ∀ w' g' n' b' off', Later w g n w' g' n' → Holds w' g' b' off' vs → Els w' g' n' es b' off' k
  | [], b, off, _ => ⟨[], by simp, fun j u h => by simp at h, fun _ _ _ _ _ _ _ => by simp [Els]⟩
  | e :: es, b, off, h => by
    simp only [Els] at h
    obtain ⟨⟨v, h1, h2, h3⟩, h4⟩ := h
    obtain ⟨vs, h5, h6, h7⟩ := Els.copy h4
    refine ⟨v.cells.toList ++ vs, by simp [h5, h2, Nat.add_mul, Nat.add_comm], fun j u hj => ?_, fun w' g' n' b' off' hl hH => ?_⟩
    · rcases Nat.lt_or_ge j v.cells.toList.length with hlt | hge
      · rw [List.getElem?_append_left hlt] at hj; exact h3 j u hj
      · rw [List.getElem?_append_right hge] at hj
        have := h6 _ u hj
        simp at hge
        rw [show off + k + (j - v.cells.toList.length) = off + j by simp; omega] at this
        exact this
    · simp only [Els]
      refine ⟨⟨v, h1.later hl, h2, fun j u hj => hH j u ?_⟩, h7 _ _ _ _ _ hl fun j u hj => ?_⟩
      · rw [List.getElem?_append_left (List.getElem?_eq_some_iff.1 hj).1]; exact hj
      · have := hH (k + j) u (by rw [List.getElem?_append_right (by simp; omega)]; simpa [h2] using hj)
        rwa [← Nat.add_assoc] at this

theorem elems_run {P : Program} {w : World} {g : Gh} {n : Nat} {base : Option Addr} {es : List AV} {cap k : Nat} (h : ∀ a, base = some a → (0 < cap → a.spot = none) ∧ Els w g n es a.block a.off k) (hn : base = none → es = []) (hcap : es.length ≤ cap) :
    ∃ us, (Builtin.firstCells k es.length (.slice base es.length cap)).run P w = .ok us.toArray w ∧ us.length = es.length * k ∧
      ∀ w' g' n' b' off', Later w g n w' g' n' → Holds w' g' b' off' us → Els w' g' n' es b' off' k := by
  cases base with
  | none => have := hn rfl; subst this; exact ⟨[], by simp [Builtin.firstCells], by simp, fun _ _ _ _ _ _ _ => by simp [Els]⟩
  | some a =>
    obtain ⟨h6, h7⟩ := h a rfl
    obtain ⟨b, off, spot⟩ := a
    simp only at h6 h7
    cases hes : es with
    | nil => exact ⟨[], by simp only [Builtin.firstCells, List.length_nil, Nat.zero_mul]; rfl, by simp, fun _ _ _ _ _ _ _ => by simp [Els]⟩
    | cons x es' =>
    rw [← hes]
    have h6 := h6 (by have := congrArg List.length hes; simp at this; omega)
    subst h6
    obtain ⟨vs, h8, h9, h10⟩ := h7.copy
    refine ⟨vs, ?_, h8, h10⟩
    simp only [Builtin.firstCells]
    rw [← h8]
    exact loadCells_holds fun j u hj => (h9 j u hj).1

theorem holds_left {w g b off} {us vs : List Value} (h : Holds w g b off (us ++ vs)) : Holds w g b off us := fun j u hj =>
  h j u (by rw [List.getElem?_append_left (List.getElem?_eq_some_iff.1 hj).1]; exact hj)
theorem holds_right {w g b off} {us vs : List Value} (h : Holds w g b off (us ++ vs)) : Holds w g b (off + us.length) vs := fun j u hj => by
  have := h (us.length + j) u (by rw [List.getElem?_append_right (by omega)]; simpa using hj)
  rwa [← Nat.add_assoc] at this

theorem op_append {t tx e ty : TypeId} {d : TypeDesc} {inf : TypeInfo} {z : Value} {s x : Operand} {args : Array Operand} {argTypes : Array TypeId} (ho : o.op = .call { callee := .builtin .append, args, argTypes })
    (ha0 : args = #[s, x]) (ht0 : argTypes = #[t, tx])
    (ht : E.P.underlying t = some (.slice e)) (htx : E.P.underlying tx = some d) (hdd : ∀ k, d ≠ .int k) (hi : E.P.info? e = some inf) (hz : inf.zero = some z)
    (hd : DstOk B.nt o.dst) (hR : RA E B σ a w g) (hv : aop E σ o.dst K Q (.append inf.size inf.bytes (z.cells.toList.map ofCell) s x)) : o.wp E.P a w (KC E B K) (QC E B Q) := by
  simp only [aop] at hv
  split at hv
  · rename_i i c es xs hdst hraw hxs
    obtain ⟨⟨hti, hk, hzl⟩, hc, hfx, hone, ⟨hb1, hb2⟩, hK⟩ := hv
    have hil := hd i hdst
    obtain ⟨g1, h1, hl1⟩ := taken_ra hR hil hti
    rw [hraw] at h1
    obtain ⟨hr0, hs0⟩ := h1.tmps i
    simp only [look_cons_same] at hr0 hs0
    rw [getD_put (by rw [hR.nt]; exact hil), if_pos rfl] at hr0 hs0
    obtain ⟨base, cap, hval, hle, hnil, hopen⟩ := own_open hc hr0 hs0
    have hn : base = none → es = [] := fun hb => List.length_eq_zero_iff.1 (by have := hnil hb; omega)
    obtain ⟨vs, hlen, hfc, hRx, hvl⟩ := argElems_run (P := E.P) hxs ((ASt.ev_rep hR x).later hl1) hfx
    obtain ⟨vs', hlen', hfc', hRx', hvl'⟩ := argElems_run (P := E.P) hxs ((ASt.ev_rep hR x).later hl1).drew hfx
    have hexec : ∀ (r : Value) (w' : World), (Builtin.append_ #[t, tx] o.type #[a.eval s, a.eval x]).run E.P w = .ok r w' → (execOp a.eval o).run E.P w = .ok (.value r) w' := by
      intro r w' hh
      unfold execOp
      simp [ho, ha0, ht0, resolve, invoke, builtin, hh]
    have hzs : z.cells.size = inf.size := by simpa using hzl
    by_cases hroom : es.length + xs.length ≤ cap
    · cases base with
      | none =>
        have h0 := hnil rfl
        have he := hn rfl
        have hx0 : xs = [] := List.length_eq_zero_iff.1 (by omega)
        subst hx0 he h0
        have hrun := hexec _ _ (by rw [hval]; exact append_nil (vs := vs) ht htx hdd hi hlen hfc)
        refine wp_value hrun ?_
        rw [hdst]
        refine ⟨_, g1, hK, ?_⟩
        have := RA.put (d := i) (av := .sl (.own inf.size) ([] ++ [])) (v := .slice none 0 0) h1 hil (by simp only [Rep]; exact ⟨none, 0, 0, rfl, rfl, Nat.le_refl _, (fun h => by cases h), (fun _ => rfl), (fun _ h => by cases h)⟩) trivial
        rw [put_put] at this
        refine ⟨this.nt, this.gok, this.gl, fun j => ?_, this.heap, this.st, this.n0, this.defers⟩
        have hj := this.tmps j
        simp only [ASt.put] at hj
        by_cases hij : i = j
        · subst hij; simpa [look] using hj
        · simpa [look, hij] using hj
      | some ad =>
        obtain ⟨hsp, _, _⟩ := hopen ad rfl
        rcases Nat.eq_zero_or_pos cap with hcap0 | hcap0
        · subst hcap0
          have he : es = [] := List.length_eq_zero_iff.1 (by omega)
          have hx0 : xs = [] := List.length_eq_zero_iff.1 (by omega)
          subst hx0 he
          have hrun := hexec _ _ (by rw [hval]; exact append_zero (vs := vs) ht htx hdd hi hlen hfc (List.length_eq_zero_iff.1 (by simpa using hvl)))
          refine wp_value hrun ?_
          rw [hdst]
          refine ⟨_, g1, hK, ?_⟩
          have := RA.put (d := i) (av := .sl (.own inf.size) ([] ++ [])) (v := .slice (some ad) 0 0) h1 hil (by
            simp only [Rep]
            exact ⟨_, 0, 0, rfl, rfl, Nat.le_refl _, (fun h => by cases h), (fun _ => rfl), (fun a' ha' => ⟨(fun h => absurd h (Nat.lt_irrefl _)), 0, by simp [Els]⟩)⟩) (by
            simp only [SpareOk]
            exact ⟨hk, by simp [Els], fun q _ hq => by simp at hq⟩)
          rw [put_put] at this
          refine ⟨this.nt, this.gok, this.gl, fun j => ?_, this.heap, this.st, this.n0, this.defers⟩
          have hj := this.tmps j
          simp only [ASt.put] at hj
          by_cases hij : i = j
          · subst hij; simpa [look] using hj
          · simpa [look, hij] using hj
        obtain ⟨b, off, spot⟩ := ad
        simp only at hsp
        have hsp := hsp hcap0
        subst hsp
        obtain ⟨_, hst, g2, h2⟩ := RA.appendIn (E := E) (B := B) h1 (c := c) (es := es) (xs := xs) (b := b) (off := off) (cap := cap) (vs := vs) hil hk (look_cons_same) hc
          (by rw [getD_put (by rw [hR.nt]; exact hil), if_pos rfl]; exact hval) hfx hone hRx hroom
        have hrun := hexec _ _ (by rw [hval]; exact append_in ht htx hdd hi hlen hfc hroom (Reps.ones (by
          rw [List.all_eq_true]; intro y hy; obtain ⟨e0, he0, hy⟩ := List.mem_flatMap.1 hy; have := hone e0 he0; rw [List.all_eq_true] at this; exact this y hy) hRx) hst)
        refine wp_value hrun ?_
        rw [hdst]
        refine ⟨_, g2, hK, ?_⟩
        rw [put_put] at h2
        refine ⟨h2.nt, h2.gok, h2.gl, fun j => ?_, h2.heap, h2.st, h2.n0, h2.defers⟩
        have hj := h2.tmps j
        by_cases hij : i = j
        · subst hij; simpa [look] using hj
        · simpa [look, hij] using hj
    · have hopen' : ∀ a', base = some a' → (0 < cap → a'.spot = none) ∧ Els w g1 σ.heap.length es a'.block a'.off inf.size := fun a' ha' => ⟨(hopen a' ha').1, (hopen a' ha').2.1⟩
      obtain ⟨us', hu1', hu2', hu3'⟩ := elems_run (P := E.P) (w := w.drew) (g := g1) (n := σ.heap.length) (base := base) (es := es) (cap := cap) (k := inf.size) (fun a' ha' => ⟨(hopen' a' ha').1, Els.later later_drew _ _ _ _ (hopen' a' ha').2⟩) hn hle
      obtain ⟨newCap, hnc, hrun⟩ := append_new (P := E.P) (w := w) (ty := o.type) (base := base) (sLen := es.length) (cap := cap) (v := a.eval x) (us := us') (vs := vs') ht htx hdd hi hz
        hu1' hlen hfc' (by omega) hb1 hb2
      have hmul : (es.length + xs.length) * inf.size = es.length * inf.size + xs.length * inf.size := Nat.add_mul _ _ _
      have hmul2 : (newCap - (es.length + xs.length)) * inf.size = newCap * inf.size - (es.length + xs.length) * inf.size := Nat.sub_mul _ _ _
      have hmul3 : (es.length + xs.length) * inf.size ≤ newCap * inf.size := Nat.mul_le_mul_right _ hnc
      obtain ⟨g2, h2⟩ := RA.appendNew (E := E) (B := B) (cap := newCap) (lo := 0) (hi' := 0) (w' := w.drew.alloc (.cells (us' ++ vs' ++ (Builtin.zeroCells z.cells (newCap - (es.length + xs.length))).toList).toArray e)) (ys := es ++ xs) (vs := us' ++ vs') (e := e) h1 hil hk
        (fun w' g' b hl hH => Els.append (hu3' w' g' _ b 0 (later_undrew hl) (holds_left hH)) (by
          have h5 := holds_right hH
          rw [hu2'] at h5
          exact Els.of_flat hfx hone h5 (Reps.later (later_undrew hl) _ _ hRx')))
        (by simp [hu2', hvl', hmul]) (by simpa using hnc) (Builtin.zeroCells z.cells (newCap - (es.length + xs.length))).toList
        (by simp [zeroCells_size, hzs, hu2', hvl']; omega) (.inr rfl) ⟨rfl, rfl, rfl, rfl⟩
      refine wp_value (hexec _ _ (by rw [hval]; exact hrun)) ?_
      rw [hdst]
      refine ⟨_, g2, hK, ?_⟩
      rw [put_put] at h2
      have h3 : RA E B { σ with tmps := (i, .sl (.own inf.size) (es ++ xs)) :: (i, .sl c es) :: (σ.taken s).tmps } (a.put (some i) (.slice (some ⟨w.heap.size, 0, none⟩) (es.length + xs.length) newCap)) (w.drew.alloc (.cells (us' ++ vs' ++ (Builtin.zeroCells z.cells (newCap - (es.length + xs.length))).toList).toArray e)) g2 := by
        have := h2; simp only [List.length_append] at this; exact this
      refine ⟨h3.nt, h3.gok, h3.gl, fun j => ?_, h3.heap, h3.st, h3.n0, h3.defers⟩
      have hj := h3.tmps j
      by_cases hij : i = j
      · subst hij; simpa [look] using hj
      · simpa [look, hij] using hj
  · exact hv.elim

theorem modify_push (A : Array Obj) (o o' : Obj) (f : Obj → Obj) (h : f o = o') : (A.push o).modify A.size f = A.push o' := by
  apply Array.ext_getElem?
  intro j
  rw [Array.getElem?_modify, Array.getElem?_push, Array.getElem?_push]
  by_cases hj : A.size = j
  · subst hj; simp [h]
  · rw [if_neg hj, if_neg (Ne.symm hj), if_neg (Ne.symm hj)]

theorem op_toBytes {src dst e : TypeId} {x : Operand} (ho : o.op = .convert src dst x) (h1 : E.P.underlying src = some .string) (h2 : E.P.underlying dst = some (.slice e)) (h3 : E.P.underlying e = some (.int .u8))
    (hd : DstOk B.nt o.dst) (hR : RA E B σ a w g) (hv : aop E σ o.dst K Q (.toBytes x)) : o.wp E.P a w (KC E B K) (QC E B Q) := by
  simp only [aop] at hv
  split at hv
  · rename_i i s hdst hx
    obtain ⟨hsz, hK⟩ := hv
    have hr := ASt.ev_rep hR x
    rw [hx, Rep.lit_iff] at hr
    have hil := hd i hdst
    let cap := (Question.appendCap s.size 0 e).cut (w.tape w.drawn (.appendCap s.size 0 e))
    have hcap : s.size ≤ cap := by simp only [cap, Question.cut]; omega
    let vs : List Value := s.data.toList.map fun b => .int .u8 b.toNat
    let rest : List Value := List.replicate (cap - s.size) (.int .u8 0)
    have hvl : vs.length = s.size := by simp only [vs, List.length_map, Array.length_toList]; rfl
    let w' : World := (w.drew.alloc (.cells (vs ++ rest).toArray e)).freeze ⟨w.heap.size, cap, none⟩ 1
    have hsz2 : (vs ++ rest).toArray.size = cap := by simp [hvl, rest]; omega
    have hpush : Pushed w w' (.cells (vs ++ rest).toArray e (cap, cap + 1)) := by
      refine ⟨?_, rfl, rfl, rfl⟩
      simp only [w', World.freeze, if_neg (show ¬ (1 = 0) by decide), World.alloc]
      exact modify_push w.heap _ _ _ rfl
    obtain ⟨g2, h4⟩ := hR.appendNew (cap := cap) (k := 1) (ys := s.data.toList.map fun b => .lit (.int .u8 b.toNat)) (vs := vs) (e := e) hil (by decide)
      (fun w1 g1 b _ hH => by
        refine Els.of_flat (vs := vs) ?_ ?_ hH ?_
        · intro y hy; simp at hy; obtain ⟨b, _, rfl⟩ := hy; simp [AV.sure, AV.cells]
        · intro y hy; simp at hy; obtain ⟨b, _, rfl⟩ := hy; simp [AV.cells, AV.one, Value.oneCell']
        · have e1 : (s.data.toList.map fun b => AV.lit (Value.int .u8 b.toNat)) = vs.map AV.lit := by simp [vs]
          rw [e1, flat_lits _ (by simp [vs, Value.oneCell'])]
          exact Reps.lits _) (by simp [vs]) (by simp; exact hcap) rest (by simp [hvl, rest]; omega) (lo := cap) (hi' := cap + 1) (.inl (by omega)) hpush
    refine wp_value (v := .slice (some ⟨w.heap.size, 0, none⟩) s.size cap) (w' := w') ?_ ?_
    · have hch : (choose (.appendCap s.size 0 e)).run E.P w = .ok cap w.drew := by rw [run_choose]; rfl
      unfold execOp
      simp only [ho, convert, Sem.run_bind, run_und h1, run_und h2, run_und h3, Result.andThen_ok, hr, Conv.stringToBytes, hch, newRow, run_newObj, Sem.run_pure, markStringish, run_shape]
      have e2 : (s.data.map (fun b => Value.int .u8 b.toNat) ++ Array.replicate (cap - s.size) (Value.int .u8 0)) = (vs ++ rest).toArray := Array.ext' (by simp [vs, rest])
      rw [e2]
      have e3 : (World.alloc w.drew (.cells (vs ++ rest).toArray e)).shape? w.heap.size = some (e, cap) := by
        simp only [World.shape?]
        have := heap_alloc_new w.drew (.cells (vs ++ rest).toArray e)
        rw [World.size_drew] at this
        rw [this]; simp only [hsz2]
      simp only [World.alloc_eq, World.size_drew, e3, run_freeze, Result.andThen_ok]
      rfl
    · rw [hdst]
      refine ⟨_, g2, hK, ?_⟩
      have e4 : (s.data.toList.map fun b => AV.lit (Value.int .u8 b.toNat)).length = s.size := by simp
      rw [e4] at h4
      exact h4
  · exact hv.elim

theorem op_toBytesU {src dst e : TypeId} {x : Operand} {s : ByteArray} (ho : o.op = .convert src dst x) (h1 : E.P.underlying src = some .string) (h2 : E.P.underlying dst = some (.slice e)) (h3 : E.P.underlying e = some (.int .u8))
    (hd : DstOk B.nt o.dst) (hR : RA E B σ a w g) (hx : σ.ev E x = .lit (.string s)) (hK : K (σ.putO o.dst (.sl .unk (s.data.toList.map fun b => .lit (.int .u8 b.toNat))))) : o.wp E.P a w (KC E B K) (QC E B Q) := by
  have hr := ASt.ev_rep hR x
  rw [hx, Rep.lit_iff] at hr
  let cap := (Question.appendCap s.size 0 e).cut (w.tape w.drawn (.appendCap s.size 0 e))
  have hcap : s.size ≤ cap := by simp only [cap, Question.cut]; omega
  let vs : List Value := s.data.toList.map fun b => .int .u8 b.toNat
  let rest : List Value := List.replicate (cap - s.size) (.int .u8 0)
  have hvl : vs.length = s.size := by simp only [vs, List.length_map, Array.length_toList]; rfl
  let w' : World := (w.drew.alloc (.cells (vs ++ rest).toArray e)).freeze ⟨w.heap.size, cap, none⟩ 1
  have hsz2 : (vs ++ rest).toArray.size = cap := by simp [hvl, rest]; omega
  have hpush : Pushed w w' (.cells (vs ++ rest).toArray e (cap, cap + 1)) := by
    refine ⟨?_, rfl, rfl, rfl⟩
    simp only [w', World.freeze, if_neg (show ¬ (1 = 0) by decide), World.alloc]
    exact modify_push w.heap _ _ _ rfl
  have hg : Grown w g σ.heap.length w' (g.new w.heap.size fun _ => .com) := by
    refine ⟨by rw [hpush.heap]; simp, hpush.os, hpush.output, hpush.tape, fun b hb => by rw [hpush.heap, Array.getElem?_push, if_neg (by omega)], fun b off hb => by simp only [Gh.new]; rw [if_neg (by omega)], fun _ _ => rfl, fun b off ho' => ?_⟩
    rw [hpush.heap]
    simp only [Gh.new] at ho'
    split at ho'
    · simp_all
    · have := hR.gok b off ho'; simp; omega
  have hblk : w'.heap[w.heap.size]? = some (.cells (vs ++ rest).toArray e (cap, cap + 1)) := by rw [hpush.heap]; simp
  refine wp_value (v := .slice (some ⟨w.heap.size, 0, none⟩) s.size cap) (w' := w') ?_ ?_
  · have hch : (choose (.appendCap s.size 0 e)).run E.P w = .ok cap w.drew := by rw [run_choose]; rfl
    unfold execOp
    simp only [ho, convert, Sem.run_bind, run_und h1, run_und h2, run_und h3, Result.andThen_ok, hr, Conv.stringToBytes, hch, newRow, run_newObj, Sem.run_pure, markStringish, run_shape]
    have e2 : (s.data.map (fun b => Value.int .u8 b.toNat) ++ Array.replicate (cap - s.size) (Value.int .u8 0)) = (vs ++ rest).toArray := Array.ext' (by simp [vs, rest])
    rw [e2]
    have e3 : (World.alloc w.drew (.cells (vs ++ rest).toArray e)).shape? w.heap.size = some (e, cap) := by
      simp only [World.shape?]
      have := heap_alloc_new w.drew (.cells (vs ++ rest).toArray e)
      rw [World.size_drew] at this
      rw [this]; simp only [hsz2]
    simp only [World.alloc_eq, World.size_drew, e3, run_freeze, Result.andThen_ok]
    rfl
  · refine ⟨_, _, hK, (hR.grow' hg).putO hd ?_ (fun _ => trivial)⟩
    simp only [Rep]
    refine ⟨_, _, _, rfl, by simp, hcap, (fun h => by cases h), (fun h => by cases h), fun a' ha' => ?_⟩
    cases ha'
    refine ⟨fun _ => rfl, 1, Els.of_flat (vs := vs) ?_ ?_ (fun j u hj => ⟨?_, ?_⟩) ?_⟩
    · intro y hy; simp at hy; obtain ⟨b, _, rfl⟩ := hy; simp [AV.sure, AV.cells]
    · intro y hy; simp at hy; obtain ⟨b, _, rfl⟩ := hy; simp [AV.cells, AV.one, Value.oneCell']
    · rw [cell_of_heap hblk]
      have : j < vs.length := (List.getElem?_eq_some_iff.1 hj).1
      simp only [Nat.zero_add, List.getElem?_toArray]
      rw [List.getElem?_append_left this]; exact hj
    · simp [Gh.new]
    · have e1 : (s.data.toList.map fun b => AV.lit (Value.int .u8 b.toNat)) = vs.map AV.lit := by simp [vs]
      rw [e1, flat_lits _ (by simp [vs, Value.oneCell'])]
      exact Reps.lits _

theorem RA.commitObj {E B σ a w g} (h : RA E B σ a w g) {id : Nat} {l : List AV} (hl : σ.heap[id]? = some (.cells l)) :
    ∃ g' vs, RA E B { σ with heap := σ.heap.set id .gone } a (w.freeze ⟨g.loc id, l.length, none⟩ 1) g' ∧ g'.loc = g.loc ∧
      Holds (w.freeze ⟨g.loc id, l.length, none⟩ 1) g' (g.loc id) 0 vs ∧ Reps (w.freeze ⟨g.loc id, l.length, none⟩ 1) g' σ.heap.length l vs ∧
      w.shape? (g.loc id) = some ((h.heap.cells id l hl).choose_spec.choose, l.length) := by
  have hcs := (h.heap.cells id l hl).choose_spec.choose_spec
  generalize (h.heap.cells id l hl).choose_spec.choose = e at hcs ⊢
  generalize (h.heap.cells id l hl).choose = cs at hcs
  have hc := hcs
  have hid : id < σ.heap.length := by
    rcases Nat.lt_or_ge id σ.heap.length with h' | h'
    · exact h'
    · rw [List.getElem?_eq_none h'] at hl; cases hl
  let w' := w.freeze ⟨g.loc id, l.length, none⟩ 1
  let g' : Gh := { own := fun b off => if b = g.loc id then .com else g.own b off, loc := g.loc }
  have hlt := lt_of_heap hc.blk
  have hw' : w'.heap = w.heap.modify (g.loc id) fun
      | .cells c elem (lo, hi) => .cells c elem (if lo == hi then (l.length, l.length + 1) else (min lo l.length, max hi (l.length + 1)))
      | o => o := rfl
  have hself : w'.heap[g.loc id]? = some (.cells cs e (l.length, l.length + 1)) := by
    rw [hw', Array.getElem?_modify, if_pos rfl, hc.blk]; rfl
  have hother : ∀ b, b ≠ g.loc id → w'.heap[b]? = w.heap[b]? := fun b hb => by
    rw [hw', Array.getElem?_modify, if_neg (Ne.symm hb)]
  have hsz : w'.heap.size = w.heap.size := by rw [hw']; simp
  have hb : ∀ b off', g.own b off' ≠ .obj id → b ≠ g.loc id := fun b off' ho hbb => ho (by rw [hbb]; exact hc.own off')
  have hlater : Later w g σ.heap.length w' g' (σ.heap.set id .gone).length := by
    refine ⟨by simp, fun _ _ => rfl, fun b off' u hcu ho => ⟨?_, ?_⟩, fun b o hbo ho => ⟨by rw [hother b (hb b 0 (by rw [ho 0]; simp))]; exact hbo, fun off' => by
      show (if b = g.loc id then Own.com else g.own b off') = _
      rw [ho off']; split <;> rfl⟩⟩
    · rw [World.cell?_of_block (w := w) (hother b (hb b off' (by rw [ho]; simp)))]; exact hcu
    · show (if b = g.loc id then Own.com else g.own b off') = _
      rw [ho]; split <;> rfl
  have hks : ∀ s, KeepsSp w g w' g' s := fun s b off' u ho hcu hf => by
    have hne := hb b off' (by rw [ho]; simp)
    have hbb := hother b hne
    refine ⟨?_, ⟨u, by rw [World.cell?_of_block (w := w) hbb]; exact hcu⟩, by rw [World.frozen?_of_block (w := w) hbb]; exact hf⟩
    show (if b = g.loc id then Own.com else g.own b off') = _
    rw [if_neg hne, ho]
  have hkb : ∀ id', KeepsBuf w g w' g' id' := fun id' b j hbl hall => by
    have hne := hb b 0 (by rw [hall 0]; simp)
    refine ⟨hother b hne, fun off' => ?_⟩
    show (if b = g.loc id then Own.com else g.own b off') = _
    rw [if_neg hne, hall off']
  refine ⟨g', cs.toList, ⟨h.nt, fun b off' ho => ?_, h.gl.later hlater.to_zero, h.tmps.step hlater (fun i => hks _), ?_, ?_, by simpa using h.n0, h.defers⟩, rfl, fun j u hj => ⟨?_, ?_⟩, ?_, ?_⟩
  · show b < w'.heap.size
    rw [hsz]
    by_cases hbb : b = g.loc id
    · rw [hbb]; exact hlt
    · refine h.gok b off' ?_
      have : g'.own b off' = g.own b off' := by show (if b = g.loc id then Own.com else g.own b off') = _; rw [if_neg hbb]
      rwa [this] at ho
  · refine HeapOk.mk' ?_ fun id' kk es hl' => ?_
    rotate_left
    · have hii : id ≠ id' := by
        rintro rfl
        simp [List.getElem?_set_self hid] at hl'
      rw [List.getElem?_set_ne hii] at hl'
      have hm := h.heap.map id' kk es hl'
      have hid' : id' < σ.heap.length := (List.getElem?_eq_some_iff.1 hl').1
      have hm2 := hm; obtain ⟨en, clock, q1, q2, _⟩ := hm2
      have hne : g.loc id' ≠ g.loc id := hb _ 0 (by rw [q2 0]; intro hh; cases hh; exact hii rfl)
      refine hm.step hid' hlater (hother _ hne) (fun off => ?_)
      show (if g.loc id' = g.loc id then Own.com else g.own (g.loc id') off) = _
      rw [if_neg hne]
    intro id' l' hl'
    by_cases hii : id = id'
    · subst hii; simp [List.getElem?_set_self hid] at hl'
    · rw [List.getElem?_set_ne hii] at hl'
      obtain ⟨vs', e', hc'⟩ := h.heap.cells id' l' hl'
      have hid' : id' < σ.heap.length := by
        rcases Nat.lt_or_ge id' σ.heap.length with h' | h'
        · exact h'
        · rw [List.getElem?_eq_none h'] at hl'; cases hl'
      have hne : g.loc id' ≠ g.loc id := hb _ 0 (by rw [hc'.own 0]; intro hh; cases hh; exact hii rfl)
      refine ⟨vs', e', hc'.step hid' hlater (hother _ hne) (fun off => ?_) (fun j => hks _) (hkb _)⟩
      show (if g.loc id' = g.loc id then Own.com else g.own (g.loc id') off) = _
      rw [if_neg hne]
  · refine h.st.trans (n := σ.heap.length) ⟨by rw [hsz]; exact Nat.le_refl _, rfl, rfl, rfl, fun b hbl ho => hother b ?_, fun b c2 e2 fr2 hcc _ => ?_, fun b off' hbl => ⟨fun ho => ?_, fun ho => ?_⟩, fun _ _ => rfl⟩ h.n0
    · refine hb b 0 ?_
      rcases ho 0 with ho | ho <;> rw [ho] <;> simp
    · by_cases hbb : b = g.loc id
      · subst hbb
        rw [hc.blk] at hcc
        cases hcc
        refine ⟨cs, _, hself, rfl, fun off' ho => ?_⟩
        rcases ho with ho | ho <;> rw [hc.own] at ho <;> cases ho
      · exact ⟨c2, fr2, by rw [hother b hbb]; exact hcc, rfl, fun _ _ => ⟨rfl, rfl⟩⟩
    · show (if b = g.loc id then Own.com else g.own b off') = _
      rw [if_neg (hb b off' (by rw [ho]; simp)), ho]
    · show (if b = g.loc id then Own.com else g.own b off') = _
      rw [ho]; split <;> rfl
  · show w'.cell? _ = _
    rw [cell_of_heap hself]; simpa using hj
  · show (if g.loc id = g.loc id then Own.com else _) = _
    rw [if_pos rfl]
  · refine Reps.of_get (by simpa using hc.size) fun i av v hi hv => ?_
    obtain ⟨v', h1, h2, _⟩ := hc.rep i av hi
    have : v' = v := by
      have h3 : cs.toList[i]? = some v' := by simpa using h1
      rw [h3] at hv; exact Option.some.inj hv
    subst this
    have := h2.later hlater
    simpa using this
  · unfold World.shape?; rw [hc.blk]; simp [hc.size]

theorem flatC_ones : ∀ {l : List AV}, (∀ av, av ∈ l → av.cells = [av]) → flatC l = l
  | [], _ => rfl
  | y :: l, h => by
    have := flatC_ones (l := l) fun z hz => h z (by simp [hz])
    unfold flatC at this ⊢
    rw [List.flatMap_cons, h y (by simp), this]; rfl

theorem op_conv8 {src dst e e' : TypeId} {x : Operand} (ho : o.op = .convert src dst x) (hsd : src = dst) (h1 : E.P.underlying src = some (.slice e')) (h2 : E.P.underlying dst = some (.slice e)) (h3 : E.P.underlying e = some (.int .u8))
    (hd : DstOk B.nt o.dst) (hR : RA E B σ a w g) (hv : aop E σ o.dst K Q (.conv8 x)) : o.wp E.P a w (KC E B K) (QC E B Q) := by
  simp only [aop] at hv
  split at hv
  · rename_i id off len cap hx
    split at hv
    · rename_i l hl
      obtain ⟨⟨h0, hlen, hone, hcl⟩, hK⟩ := hv
      subst h0 hlen
      have hr := ASt.ev_rep hR x
      rw [hx] at hr
      simp only [Rep] at hr
      obtain ⟨hxv, hid, hle⟩ := hr
      obtain ⟨g', vs, hRA, hloc, hH, hRs, hsh⟩ := hR.commitObj hl
      refine wp_value (v := a.eval x) (w' := w.freeze ⟨g.loc id, l.length, none⟩ 1) ?_ ?_
      · unfold execOp
        simp only [ho, convert, Sem.run_bind, run_und h1, run_und h2, run_und h3, Result.andThen_ok, hxv, markStringish, run_shape, hsd, beq_self_eq_true]
        simp [hsh, run_freeze]
      · refine ⟨_, g', hK, hRA.putO hd ?_ (fun _ => trivial)⟩
        simp only [Rep, hxv]
        refine ⟨_, _, _, rfl, rfl, hle, (fun h => by cases h), (fun h => by cases h), fun a' ha' => ?_⟩
        cases ha'
        refine ⟨fun _ => rfl, 1, Els.of_flat (vs := vs) ?_ ?_ ?_ ?_⟩
        · intro y hy; exact ⟨(hcl y hy).1, by rw [(hcl y hy).2]; rfl⟩
        · intro y hy; rw [(hcl y hy).2]; simpa using List.all_eq_true.1 hone y hy
        · exact hH
        · have : flatC l = l := flatC_ones fun y hy => (hcl y hy).2
          rw [this]
          simpa using hRs
    · exact hv.elim
  · exact hv.elim

end Go.Abs

namespace Go.Abs
open Go Go.RowKit

variable {E : Env} {B : Base} {σ : ASt} {a : Act} {w : World} {g : Gh} {K : ASt → Prop} {Q : AEx → ASt → Prop} {o : Oper}

theorem setMany_eq : ∀ (avs l : List AV) (off : Nat), off + avs.length ≤ l.length → setMany l off avs = l.take off ++ avs ++ l.drop (off + avs.length)
  | [], l, off, _ => by simp [setMany]
  | x :: avs, l, off, h => by
    simp only [List.length_cons] at h
    rw [setMany, setMany_eq avs _ _ (by simp; omega)]
    rw [List.take_set, List.take_succ_eq_append_getElem (by omega), List.drop_set_of_lt (by omega)]
    rw [List.set_append_right _ _ (by simp; omega)]
    simp only [List.length_take, List.append_assoc, List.length_cons]
    rw [show off - min off l.length = 0 by omega]
    simp [Nat.add_assoc, Nat.add_comm 1]

theorem placed_flat (k : Nat) : ∀ (parts : List (Nat × Operand)), placed (fun i => some (i * k, k)) parts = some (parts.map fun p => (p.1 * k, k, p.2))
  | [] => rfl
  | (i, x) :: parts => by simp [placed, placed_flat k parts]

theorem fillA_all {ev : Operand → AV} {k : Nat} : ∀ (parts : List (Nat × Operand)) (j : Nat) (l : List AV), parts.map (·.1) = List.range' j parts.length →
    (∀ p, p ∈ parts → (ev p.2).sure = true ∧ (ev p.2).cells.length = k) → (j + parts.length) * k ≤ l.length →
    fillA ev l (parts.map fun p => (p.1 * k, k, p.2)) = some (l.take (j * k) ++ flatC (parts.map fun p => ev p.2) ++ l.drop ((j + parts.length) * k))
  | [], j, l, _, _, h => by simp [fillA, flatC]
  | (i, x) :: parts, j, l, h1, h2, h3 => by
    simp only [List.map_cons, List.length_cons, List.range'_succ, List.cons.injEq] at h1
    obtain ⟨rfl, h1⟩ := h1
    obtain ⟨hs, hk⟩ := h2 (i, x) (by simp)
    simp only at hs hk
    have hm : (i + (parts.length + 1)) * k = i * k + k + parts.length * k := by rw [Nat.add_mul, Nat.add_mul, Nat.one_mul]; omega
    simp only [List.length_cons] at h3
    rw [hm] at h3
    simp only [List.map_cons, fillA]
    rw [if_pos ⟨hs, hk, by omega⟩]
    have hm1 : (i + 1) * k = i * k + k := by rw [Nat.add_mul, Nat.one_mul]
    have hm2 : (i + 1 + parts.length) * k = i * k + k + parts.length * k := by rw [Nat.add_mul, hm1]
    rw [fillA_all parts (i + 1) _ h1 (fun p hp => h2 p (by simp [hp])) (by rw [setMany_length, hm2]; omega)]
    rw [setMany_eq _ _ _ (by omega), hk]
    congr 1
    simp only [flatC, List.flatMap_cons, List.length_cons, hm, hm1, hm2]
    have e1 : (l.take (i * k) ++ (ev x).cells ++ l.drop (i * k + k)).take (i * k + k) = l.take (i * k) ++ (ev x).cells := by
      rw [List.take_append_of_le_length (by simp [hk]; omega), List.take_of_length_le (by simp [hk]; omega)]
    have e2 : (l.take (i * k) ++ (ev x).cells ++ l.drop (i * k + k)).drop (i * k + k + parts.length * k) = l.drop (i * k + k + parts.length * k) := by
      rw [List.drop_append, List.drop_eq_nil_of_le (by simp [hk]; omega), List.nil_append, List.drop_drop]
      congr 1
      simp [hk]; omega
    rw [e1, e2]
    simp

theorem RA.newSlice (h : RA E B σ a w g) {k : Nat} {es : List AV} {vs : Array Value} {e : TypeId} (hf : Fit k es) (ho : allOne es) (hr : Reps w g σ.heap.length (flatC es) vs.toList) :
    ∃ g', RA E B σ a (w.alloc (.cells vs e)) g' ∧ Rep (w.alloc (.cells vs e)) g' σ.heap.length (.sl .full es) (.slice (some ⟨w.heap.size, 0, none⟩) es.length es.length) := by
  have hg := grown_alloc (n := σ.heap.length) h.gok (.cells vs e) (fun _ => .com)
  refine ⟨_, h.grow' hg, ?_⟩
  simp only [Rep]
  refine ⟨_, _, _, rfl, rfl, Nat.le_refl _, fun _ => rfl, (fun hh => by cases hh), fun a' ha' => ?_⟩
  cases ha'
  refine ⟨fun _ => rfl, k, Els.of_flat (vs := vs.toList) hf ho (fun j u hj => ⟨?_, by simp [Gh.new]⟩) (Reps.later (hg.later (Nat.le_refl _)) _ _ hr)⟩
  rw [cell_of_heap (heap_alloc_new w _)]
  simpa using hj

theorem parts_map {ρ : Operand → Value} (parts : Array (Nat × Operand)) : (parts.map fun (i, x) => (i, ρ x)).toList = parts.toList.map fun x => (x.1, ρ x.2) := by
  simp

theorem op_buildSlice {obj : Bool} {t e : TypeId} {len : Nat} {parts : Array (Nat × Operand)} {inf : TypeInfo} {z : Value} (ho : o.op = .buildSlice t len parts)
    (hu : E.P.underlying t = some (.slice e)) (hi : E.P.info? e = some inf) (hz : inf.zero = some z)
    (hd : DstOk B.nt o.dst) (hR : RA E B σ a w g) (hv : aop E σ o.dst K Q (.buildSlice obj inf.size (z.cells.toList.map ofCell) len parts.toList)) : o.wp E.P a w (KC E B K) (QC E B Q) := by
  simp only [aop] at hv
  obtain ⟨⟨hp1, hp2, hk, hzl, hp3⟩, hv⟩ := hv
  have hzs : z.cells.size = inf.size := by simpa using hzl
  have hplen : parts.toList.length = len := by have := congrArg List.length hp1; simpa using this
  let es := parts.toList.map fun p => σ.ev E p.2
  have hel : es.length = len := by simp only [es, List.length_map]; exact hplen
  have hf : Fit inf.size es := by
    intro y hy; obtain ⟨p, hp, rfl⟩ := List.mem_map.1 hy; exact ⟨(hp3 p hp).1, (hp3 p hp).2.1⟩
  have ho1 : allOne es := by
    intro y hy; obtain ⟨p, hp, rfl⟩ := List.mem_map.1 hy; exact (hp3 p hp).2.2
  -- the machine's cells
  have hrun : ∃ cells : Array Value, (Instr.buildSlice t len (parts.map fun (i, x) => (i, a.eval x))).run E.P w = .ok (.slice (some ⟨w.heap.size, 0, none⟩) len len) (w.alloc (.cells cells e)) ∧
      Reps w g σ.heap.length (flatC es) cells.toList := by
    by_cases hl0 : len = 0
    · subst hl0
      have hp0 : parts = #[] := by
        have := List.length_eq_zero_iff.1 hplen
        simpa using this
      subst hp0
      exact ⟨#[], by simp [Instr.buildSlice, run_und hu, run_siz hi, Instr.fill, newRow]; congr 2; exact Array.eq_empty_of_size_eq_zero (by simp), by simp [es, flatC, Reps]⟩
    · let zs : Array Value := (Array.range (len * inf.size)).map (z.cells[· % z.cells.size]!)
      have hzsl : zs.size = len * inf.size := by simp [zs]
      obtain ⟨cells, h1, h2⟩ := fill_reps (w := w) (g := g) (n := σ.heap.length) (place := fun i => some (i * inf.size, inf.size)) (fun x => ASt.ev_rep hR x) parts.toList _ (zs.toList.map ofCell) _ zs
        (placed_flat inf.size _) (Reps.ofCells _) (fillA_all parts.toList 0 _ (by rw [hp1, List.range_eq_range', hplen]) (fun p hp => ⟨(hp3 p hp).1, (hp3 p hp).2.1⟩) (by simp [hzsl]; exact Nat.le_of_eq (by rw [← hplen]; simp)))
      refine ⟨cells, run_buildSlice w t e len _ cells inf z hu hi hz (by omega) (by
        intro h0; rcases Nat.mul_eq_zero.1 h0 with h0 | h0 <;> omega) (by rw [parts_map]; exact h1), ?_⟩
      simp only [Nat.zero_mul, List.take_zero, List.nil_append, Nat.zero_add] at h2
      rw [List.drop_eq_nil_of_le (by rw [hplen]; simp [hzsl]), List.append_nil] at h2
      exact h2
  obtain ⟨cells, hrun, hreps⟩ := hrun
  have hexec : (execOp a.eval o).run E.P w = .ok (.value (.slice (some ⟨w.heap.size, 0, none⟩) len len)) (w.alloc (.cells cells e)) := by
    unfold execOp; simp only [ho, Sem.run_bind, hrun, Result.andThen_ok, Sem.run_pure]
  split at hv
  · obtain ⟨h1, h2⟩ := hR.newObj (e := e) (l := (flatC es).map AV.strip) (Reps.stripAll hreps) (noOwn_stripAll _)
    refine wp_value hexec ⟨_, g.newObj w.heap.size σ.heap.length, hv, ?_⟩
    refine h1.putO hd ?_ (fun s => ?_)
    · simp only [Rep, h2]; exact ⟨trivial, by simp, Nat.le_refl _⟩
    · trivial
  · obtain ⟨g', h1, h2⟩ := hR.newSlice (e := e) hf ho1 hreps
    refine wp_value hexec ⟨_, g', hv, h1.putO hd (by rw [hel] at h2; exact h2) (fun s => trivial)⟩

def hideF : Slot → Own
  | .tmp _ => .none
  | .cell i j => .sp (.cell i j)

def afterOwn : Own → Own → Own
  | .sp (.tmp i), _ => .sp (.tmp i)
  | _, .sp (.tmp _) => .none
  | _, o => o

def Gh.after (g g' : Gh) : Gh where
  loc := g'.loc
  own := fun b off => afterOwn (g.own b off) (g'.own b off)

theorem after_tmp {g g' : Gh} {b off i} (h : g.own b off = .sp (.tmp i)) : (g.after g').own b off = .sp (.tmp i) := by simp [Gh.after, h, afterOwn]
theorem afterOwn_other : ∀ (x o : Own), (∀ i, x ≠ .sp (.tmp i)) → (∀ i, o ≠ .sp (.tmp i)) → afterOwn x o = o := by
  intro x o h ho
  cases x with
  | sp s => cases s with
    | tmp i => exact absurd rfl (h i)
    | cell i j => cases o with
      | sp s => cases s with
        | tmp i => exact absurd rfl (ho i)
        | cell i j => rfl
      | _ => rfl
  | none => cases o with
      | sp s => cases s with
        | tmp i => exact absurd rfl (ho i)
        | cell i j => rfl
      | _ => rfl
  | com => cases o with
      | sp s => cases s with
        | tmp i => exact absurd rfl (ho i)
        | cell i j => rfl
      | _ => rfl
  | obj k => cases o with
      | sp s => cases s with
        | tmp i => exact absurd rfl (ho i)
        | cell i j => rfl
      | _ => rfl
theorem after_other {g g' : Gh} {b off o} (h : ∀ i, g.own b off ≠ .sp (.tmp i)) (h' : g'.own b off = o) (ho : ∀ i, o ≠ .sp (.tmp i)) : (g.after g').own b off = o := by
  simp only [Gh.after, h']
  exact afterOwn_other _ _ h ho

theorem HeapOk.hide {h} (hh : HeapOk w g h) : HeapOk w (g.re hideF) h := HeapOk.mk' (fun id l hl =>
  let ⟨vs, e, hc⟩ := hh.cells id l hl
  ⟨vs, e, hc.blk, fun off => re_obj (hc.own off), hc.size, fun j av hj => let ⟨v, h3, h4, h5⟩ := hc.rep j av hj; ⟨v, h3, h4.later later_re, h5.re rfl⟩, hc.bp,
    fun j te b hj => let ⟨v, h3, h4, h5⟩ := hc.buf j te b hj; ⟨v, h3, h4, fun k hv off => by rw [re_sp (h5 k hv off)]; rfl⟩⟩) fun id kk es hl => (hh.map id kk es hl).re

theorem RA.after {w' : World} {g' : Gh} {h' : List AObj} (h : RA E B σ a w g) (hk : GOk w' g') (hgl : GlOk E w' g') (hh : HeapOk w' g' h') (hst : Stable w (g.re hideF) σ.heap.length w' g') (hn : σ.heap.length ≤ h'.length) :
    RA E B { σ with heap := h' } a w' (g.after g') ∧ Later w' g' h'.length w' (g.after g') h'.length := by
  have hgc : GOk w (g.re hideF) := fun b off ho => h.gok b off fun hn => ho (re_none hn)
  have hl0 := hst.later hgc hn
  have hno : ∀ b off, g'.own b off ≠ .none → ∀ i, g.own b off ≠ .sp (.tmp i) := fun b off hne i hi => by
    have hb := h.gok b off (by rw [hi]; simp)
    exact hne ((hst.own b off hb).1 (by rw [re_sp hi]; rfl))
  have hl2 : Later w' g' h'.length w' (g.after g') h'.length := ⟨Nat.le_refl _, fun _ _ => rfl, fun b off u hc ho => ⟨hc, after_other (hno b off (by rw [ho]; simp)) ho (by simp)⟩, fun b o hb ho => ⟨hb, fun off => after_other (hno b off (by rw [ho off]; simp)) (ho off) (by simp)⟩⟩
  have hl1 : Later w g σ.heap.length w' (g.after g') h'.length := (later_re (f := hideF)).trans (hl0.trans hl2)
  have hst' : Stable w g σ.heap.length w' (g.after g') := by
    refine ⟨hst.size, hst.os, hst.output, hst.tape, fun b hb ho => hst.blk b hb fun off => (ho off).imp re_none re_com, fun b c e fr hc hx => ?_, fun b off hb => ⟨fun ho => ?_, fun ho => ?_⟩, hst.loc⟩
    · obtain ⟨c', fr', h1, h2, h3⟩ := hst.cel b c e fr hc (let ⟨off, ho⟩ := hx; ⟨off, ho.imp re_none re_com⟩)
      exact ⟨c', fr', h1, h2, fun off ho => h3 off (ho.imp re_none re_com)⟩
    · exact after_other (by rw [ho]; simp) ((hst.own b off hb).1 (re_none ho)) (by simp)
    · exact after_other (by rw [ho]; simp) ((hst.own b off hb).2 (re_com ho)) (by simp)
  refine ⟨⟨h.nt, fun b off ho => ?_, hgl.later hl2.to_zero, fun i => ⟨(h.tmps i).1.later hl1, (h.tmps i).2.later hl1 ?_⟩, HeapOk.mk' (fun id l hl => ?_) (fun id kk es hl => ?_), h.st.trans hst' h.n0, Nat.le_trans h.n0 hn, h.defers⟩, hl2⟩
  · by_cases hi : ∃ i, g.own b off = .sp (.tmp i)
    · obtain ⟨i, hi⟩ := hi; exact Nat.lt_of_lt_of_le (h.gok b off (by rw [hi]; simp)) hst.size
    · refine hk b off fun hn' => ho (after_other (fun i hh => hi ⟨i, hh⟩) hn' (by simp))
  · intro b off u ho hc hf
    refine ⟨after_tmp ho, ?_⟩
    have hnone : (g.re hideF).own b off = .none := by rw [re_sp ho]; rfl
    unfold World.cell? at hc
    simp only at hc
    split at hc
    · rename_i c e fr heq
      obtain ⟨c', fr', h1, h2, h3⟩ := hst.cel b c e fr heq ⟨off, .inl hnone⟩
      simp at hc
      obtain ⟨hfr, h3'⟩ := h3 off (.inl hnone)
      subst hfr
      refine ⟨⟨u, by rw [cell_of_heap h1, h3']; exact hc⟩, ?_⟩
      obtain ⟨lo, hi⟩ := fr'
      rw [frozen_of_block heq] at hf
      rw [frozen_of_block h1]; exact hf
    · cases hc
  rotate_left
  · obtain ⟨en, clock, q1, q2, q3, q4, q5⟩ := hh.map id kk es hl
    exact ⟨en, clock, q1, fun off => after_other (hno _ _ (by rw [show (g.after g').loc = g'.loc from rfl, q2]; simp)) (q2 off) (by simp), q3, Reps.later hl2 _ _ q4, q5⟩
  · obtain ⟨vs, e, hc⟩ := hh.cells id l hl
    refine ⟨vs, e, hc.blk, fun off => after_other (hno _ _ (by rw [show (g.after g').loc = g'.loc from rfl, hc.own]; simp)) (hc.own off) (by simp), hc.size, fun j av hj => ?_, hc.bp, fun j te b hj => ?_⟩
    · obtain ⟨v, h1, h2, h3⟩ := hc.rep j av hj
      exact ⟨v, h1, h2.later hl2, h3.later hl2 fun b off u ho hcu hf => ⟨after_other (hno _ _ (by rw [ho]; simp)) ho (by simp), ⟨u, hcu⟩, hf⟩⟩
    · obtain ⟨v, h1, h2, h3⟩ := hc.buf j te b hj
      exact ⟨v, h1, h2, fun k hv off => after_other (hno _ _ (by rw [h3 k hv off]; simp)) (h3 k hv off) (by simp)⟩

theorem argsOk_of {n : Nat} {args : List AV} {vs : List Value} (h : Reps w g n args vs) (hno : ∀ av ∈ args, NoOwn av) : argsOk w g n args vs.toArray :=
  ⟨by simpa using h.length, fun i av hi => let ⟨v, h1, h2⟩ := h.get i av hi; ⟨v, by simpa using h1, h2, (hno av (List.mem_of_getElem? hi)).spare⟩⟩

theorem op_call {f : Operand} {args : Array Operand} {argTypes : Array TypeId} (ho : o.op = .call { callee := .value f, args, argTypes }) (hd : DstOk B.nt o.dst) (hR : RA E B σ a w g)
    (hv : aop E σ o.dst K Q (.call f (args.toList.map fun x => (x, false)))) : o.wp E.P a w (KC E B K) (QC E B Q) := by
  simp only [aop] at hv
  split at hv
  · rename_i fid first caps hf
    have hrf := ASt.ev_rep hR f
    unfold fnOf at hf
    split at hf
    · rename_i fid' first' caps' e1
      cases hf
      rw [e1] at hrf
      simp only [Rep] at hrf
      obtain ⟨fa, ca, hfv, hr1, hr2⟩ := hrf
      have hargs : Reps w g σ.heap.length (first.map AV.strip ++ (args.toList.map fun x => (x, false)).map (fun x => σ.ev E x.1) ++ caps.map AV.strip) (fa.toList ++ (args.toList.map a.eval) ++ ca.toList) := by
        refine Reps.append (Reps.append (Reps.stripAll hr1) ?_) (Reps.stripAll hr2)
        have := Reps.evs (fun x => ASt.ev_rep hR x) args.toList
        simpa [List.map_map, Function.comp_def] using this
      have hok := argsOk_of (Reps.later (later_re (f := hideF)) _ _ hargs) (by
        intro av hav
        simp only [List.mem_append, List.mem_map] at hav
        rcases hav with (⟨x, _, rfl⟩ | ⟨_, ⟨x, _, rfl⟩, rfl⟩) | ⟨x, _, rfl⟩
        · exact NoOwn.strip _
        · exact ASt.ev_noOwn _
        · exact NoOwn.strip _)
      have hgc : GOk w (g.re hideF) := fun b off ho => hR.gok b off fun hn => ho (re_none hn)
      have hI := hv w (g.re hideF) _ hgc (hR.gl.later (later_re (n := 0))) hR.heap.hide hok
      have hvs : (fa.toList ++ (args.toList.map a.eval) ++ ca.toList).toArray = fa ++ args.map a.eval ++ ca := Array.ext' (by simp)
      rw [hvs] at hI
      have hex : execOp a.eval o = callFunc fid (fa ++ args.map a.eval ++ ca) := by
        unfold execOp
        simp [ho, resolve, Deferred.ofValue, hfv, invoke]
      -- what comes of the callee's end
      have hend : ∀ e w', (∃ r h' g', (match r with
          | .ret v => K ({ σ with heap := h' }.putO o.dst v.strip)
          | .panic v => Q (.panic v) { σ with heap := h' }) ∧ EndRel w' g' h'.length r e ∧ GOk w' g' ∧ GlOk E w' g' ∧ HeapOk w' g' h' ∧ Stable w (g.re hideF) σ.heap.length w' g' ∧ σ.heap.length ≤ h'.length) →
          (match e, w' with
            | .returned v, w'' => KC E B K (a.put o.dst v) w''
            | .panicked chain, w'' => QC E B Q (.panic chain) a w''
            | .outgrown, _ => LetsOut (QC E B Q)) := by
        rintro e w' ⟨r, h', g', hq, hend, hk, hgl, hh, hst, hn⟩
        obtain ⟨hra, hl2⟩ := hR.after hk hgl hh hst hn
        cases r with
        | ret av =>
          obtain ⟨v, rfl, hr⟩ := hend
          exact ⟨_, _, hq, hra.putO hd (hr.later hl2).strip (fun _ => SpareOk.strip)⟩
        | panic av =>
          obtain ⟨v, rfl, hr⟩ := hend
          exact ⟨_, _, _, hq, ⟨v, rfl, hr.later hl2⟩, hra⟩
      rcases hI with ⟨h1, h2⟩ | ⟨v, w', h1, h2⟩
      · unfold Oper.wp
        rw [hex, h1, Oper.upon_enter]
        exact h2.mono fun e w' he => by
          have := hend e w' he
          cases e <;> exact this
      · refine wp_value (by rw [hex]; exact h1) (hend _ _ h2)
    · cases hf
  · exact hv.elim

end Go.Abs
