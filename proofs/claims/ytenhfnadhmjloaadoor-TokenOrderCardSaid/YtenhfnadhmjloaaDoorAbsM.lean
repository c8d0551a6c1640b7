/- The operations that act. -/
import Derived.Test.YtenhfnadhmjloaaDoorAbsL
set_option linter.all false
namespace Go.Abs
open Go Go.RowKit

/-- The operand's value with its room, if it is a temporary. -/
def ASt.raw (E : Env) (σ : ASt) : Operand → AV
  | .tmp t => look σ.tmps t
  | x => σ.ev E x

/-- What was taken out of a temporary is there no more. -/
def ASt.taken (σ : ASt) : Operand → ASt
  | .tmp t => { σ with tmps := (t, (look σ.tmps t).strip) :: σ.tmps }
  | _ => σ

def isTmp (i : Nat) : Operand → Bool
  | .tmp t => t == i
  | _ => false

def allOne (es : List AV) : Prop := ∀ e, e ∈ es → e.cells.all AV.one = true

def fnOf (E : Env) (σ : ASt) (x : Operand) : Option (FuncId × List AV × List AV) :=
  match σ.ev E x with
  | .fn (.func f) first caps => some (f, first, caps)
  | _ => none

def aop (E : Env) (σ : ASt) (d : Option Nat) (K : ASt → Prop) (Q : AEx → ASt → Prop) : AOp → Prop
  | .take t => (match d with
    | some i => t ≠ i ∧ K { σ with tmps := (i, look σ.tmps t) :: (t, (look σ.tmps t).strip) :: σ.tmps }
    | none => False)
  | .box x => (σ.ev E x).sure = true ∧ K ({ σ with heap := σ.heap ++ [AObj.cells ((σ.ev E x).cells.map AV.strip)] }.putO d (.ref σ.heap.length 0))
  | .alloc zero => K ({ σ with heap := σ.heap ++ [AObj.cells zero] }.putO d (.ref σ.heap.length 0))
  | .store n x y => (match σ.ev E x with
    | .ref id off => (match σ.heap[id]? with
      | some (.cells l) => ((σ.ev E y).sure = true ∧ (σ.ev E y).cells.length = n ∧ off + n ≤ l.length ∧ (σ.ev E y).cells.all AV.one = true) ∧
          K ({ σ with heap := σ.heap.set id (AObj.cells (setMany l off ((σ.ev E y).cells.map AV.strip))) }.putO d .any)
      | _ => False)
    | _ => False)
  | .append k bytes zero s x => (match d, σ.raw E s, argElems (σ.ev E x) with
    | some i, .sl c es, some xs =>
      (isTmp i s = false ∧ 0 < k ∧ zero.length = k) ∧ (c = .own k ∨ (c = .full ∧ Fit k es)) ∧ Fit k xs ∧ allOne xs ∧
      ((2 * (es.length + xs.length) + 192) * bytes ≤ 2 ^ 48 ∧ es.length + xs.length < 2 ^ 62) ∧
      K { σ with tmps := (i, .sl (.own k) (es ++ xs)) :: (σ.taken s).tmps }
    | _, _, _ => False)
  | .toBytes x => (match d, σ.ev E x with
    | some i, .lit (.string s) => s.size < 2 ^ 62 ∧ K (σ.put i (.sl (.own 1) (s.data.toList.map fun b => .lit (.int .u8 b.toNat))))
    | _, _ => False)
  | .buildSlice obj k zero len parts =>
    (parts.map (·.1) = List.range len ∧ len * k ≤ 2 ^ 24 ∧ 0 < k ∧ zero.length = k ∧ (∀ p, p ∈ parts → (σ.ev E p.2).sure = true ∧ (σ.ev E p.2).cells.length = k ∧ (σ.ev E p.2).cells.all AV.one = true)) ∧
    (if obj then K ({ σ with heap := σ.heap ++ [AObj.cells ((flatC (parts.map fun (p : Nat × Operand) => σ.ev E p.2)).map AV.strip)] }.putO d (.vw σ.heap.length 0 len len))
     else K (σ.putO d (.sl .full (parts.map fun (p : Nat × Operand) => σ.ev E p.2))))
  | .call f args => (match fnOf E σ f with
    | some (fid, first, caps) => Ev E fid (first.map AV.strip ++ args.map (fun x => σ.ev E x.1) ++ caps.map AV.strip) σ.heap (fun r h' => match r with
      | .ret v => K ({ σ with heap := h' }.putO d v.strip)
      | .panic v => Q (.panic v) { σ with heap := h' })
    | none => False)
  | .panic x => (match σ.ev E x with | .ifc t v => Q (.panic (.ifc t v)) σ | _ => False)
  | .conv8 x => (match σ.ev E x with
    | .vw id off len _ => (match σ.heap[id]? with
      | some (.cells l) => (off = 0 ∧ l.length = len ∧ l.all AV.one = true ∧ (∀ av, av ∈ l → av.sure = true ∧ av.cells = [av])) ∧ K ({ σ with heap := σ.heap.set id .gone }.putO d (.sl .unk l))
      | _ => False)
    | _ => False)
  | ao => vop σ.heap (σ.ev E) ao fun v => K (σ.putO d v)

variable {E : Env} {B : Base} {σ : ASt} {a : Act} {w : World} {g : Gh} {K : ASt → Prop} {Q : AEx → ASt → Prop} {o : Oper}

theorem wp_value {P : Program} {o : Oper} {a : Act} {w w' : World} {v : Value} {K : Act → World → Prop} {Q : Exit → Act → World → Prop} (h : (execOp a.eval o).run P w = .ok (.value v) w') (hk : K (a.put o.dst v) w') : o.wp P a w K Q := by
  unfold Oper.wp; rw [h]; exact hk
theorem wp_skipv {P : Program} {o : Oper} {a : Act} {w w' : World} {K : Act → World → Prop} {Q : Exit → Act → World → Prop} (h : (execOp a.eval o).run P w = .ok .skip w') (hk : K (a.put o.dst undef) w') : o.wp P a w K Q := by
  unfold Oper.wp; rw [h]; exact hk

def DstOk (nt : Nat) (d : Option Nat) : Prop := ∀ i, d = some i → i < nt

theorem op_vop {ao : AOp} (hc : cop E.P o.op = some ao) (hV : isV ao = true) (hd : DstOk B.nt o.dst) (hR : RA E B σ a w g) (hv : vop σ.heap (σ.ev E) ao fun v => K (σ.putO o.dst v)) :
    o.wp E.P a w (KC E B K) (QC E B Q) := by
  obtain ⟨v, av, h1, h2, h3, h4⟩ := vop_sound hc hV hR.heap (fun x => ASt.ev_rep hR x) (fun x => ASt.ev_noOwn x) hv
  exact wp_value h1 ⟨_, g, h4, hR.putO hd h2 (fun _ => h3.spare)⟩

theorem op_take {t : Nat} (ho : o.op = .move (.tmp t) ∨ o.op = .assign (.tmp t)) (hd : DstOk B.nt o.dst) (hR : RA E B σ a w g) (hv : aop E σ o.dst K Q (.take t)) :
    o.wp E.P a w (KC E B K) (QC E B Q) := by
  have hrun : (execOp a.eval o).run E.P w = .ok (.value (a.tmps.getD t undef)) w := by
    unfold execOp; rcases ho with ho | ho <;> simp [ho, Act.eval]
  simp only [aop] at hv
  split at hv
  · rename_i i hi
    refine wp_value hrun ?_
    rw [hi]
    exact ⟨_, _, hv.2, hR.take (hd i hi) hv.1⟩
  · exact hv.elim

theorem Reps.stripAll {n : Nat} : ∀ {as : List AV} {vs : List Value}, Reps w g n as vs → Reps w g n (as.map AV.strip) vs
  | [], _, h => h
  | a :: as, vs, h => by
    obtain ⟨v, rest, rfl, h1, h2⟩ := Reps.cons.1 h
    exact Reps.cons'.2 ⟨h1.strip, Reps.stripAll h2⟩

theorem noOwn_stripAll (l : List AV) : ∀ av ∈ l.map AV.strip, NoOwn av := by
  intro av h
  obtain ⟨x, _, rfl⟩ := List.mem_map.1 h
  exact NoOwn.strip _

theorem op_box {t : TypeId} {x : Operand} (ho : o.op = .box t x) (hd : DstOk B.nt o.dst) (hR : RA E B σ a w g) (hv : aop E σ o.dst K Q (.box x)) :
    o.wp E.P a w (KC E B K) (QC E B Q) := by
  simp only [aop] at hv
  obtain ⟨hs, hk⟩ := hv
  have hr := (ASt.ev_rep hR x).cells hs
  obtain ⟨h1, h2⟩ := hR.newObj (e := t) (Reps.stripAll hr) (noOwn_stripAll _)
  refine wp_value (v := .pointer (some ⟨w.heap.size, 0, none⟩)) (w' := w.alloc (.cells (a.eval x).cells t)) (by unfold execOp; simp [ho, Instr.box, newVar, newRow]) ⟨_, g.newObj w.heap.size σ.heap.length, hk, ?_⟩
  refine h1.putO hd ?_ (fun _ => (NoOwn.ref _ _).spare)
  simp only [Rep, h2]
  exact ⟨trivial, by simp⟩

theorem op_alloc {t : TypeId} {inf : TypeInfo} {z : Value} (ho : o.op = .alloc t) (hi : E.P.info? t = some inf) (hz : inf.zero = some z) (hd : DstOk B.nt o.dst) (hR : RA E B σ a w g)
    (hv : aop E σ o.dst K Q (.alloc (z.cells.toList.map ofCell))) : o.wp E.P a w (KC E B K) (QC E B Q) := by
  simp only [aop] at hv
  obtain ⟨h1, h2⟩ := hR.newObj (l := z.cells.toList.map ofCell) (vs := z.cells) (e := t) (Reps.ofCells _) (by intro av h; obtain ⟨x, _, rfl⟩ := List.mem_map.1 h; exact ofCell_noOwn _)
  refine wp_value (v := .pointer (some ⟨w.heap.size, 0, none⟩)) (w' := w.alloc (.cells z.cells t)) (by unfold execOp; simp [ho, Instr.alloc, newVar, newRow, zeroValue, run_inf hi, hz]) ⟨_, g.newObj w.heap.size σ.heap.length, hv, ?_⟩
  refine h1.putO hd ?_ (fun _ => (NoOwn.ref _ _).spare)
  simp only [Rep, h2]
  exact ⟨trivial, by simp⟩

theorem op_store {t : TypeId} {inf : TypeInfo} {x y : Operand} (ho : o.op = .store t x y) (hi : E.P.info? t = some inf) (hd : DstOk B.nt o.dst) (hR : RA E B σ a w g)
    (hv : aop E σ o.dst K Q (.store inf.size x y)) : o.wp E.P a w (KC E B K) (QC E B Q) := by
  simp only [aop] at hv
  split at hv
  · rename_i id off hx
    split at hv
    · rename_i l hl
      obtain ⟨⟨hs, hn, hle, hone⟩, hk⟩ := hv
      have hrx := ASt.ev_rep hR x
      rw [hx] at hrx
      simp only [Rep] at hrx
      obtain ⟨hp, _⟩ := hrx
      have hry := (ASt.ev_rep hR y).cells hs
      have hsz : (a.eval y).cells.size = inf.size := by have := hry.length; simp at this; omega
      obtain ⟨cs, e, hc⟩ := hR.heap id l hl
      have hrun : (storeCells ⟨g.loc id, off, none⟩ (a.eval y).cells.toList).run E.P w = .ok () (setRow w (g.loc id) off (a.eval y).cells.toList) := by
        have := run_storeCells (P := E.P) (a.eval y).cells.toList w (g.loc id) off 0 (Reps.ones hone hry) ?_
        · simpa using this
        · intro j hj
          simp at hj
          refine ⟨?_, by rw [frozen_of_block hc.blk]; simp⟩
          rw [cell_of_heap hc.blk]
          exact ⟨_, Array.getElem?_eq_getElem (by rw [hc.size]; omega)⟩
      have hw := hR.write (off := off) (vs := (a.eval y).cells.toList) hl (Reps.stripAll hry) (noOwn_stripAll _) (by simp; omega)
      refine wp_skipv (w' := setRow w (g.loc id) off (a.eval y).cells.toList) ?_ ⟨_, g, hk, ?_⟩
      · unfold execOp
        simp only [ho, Instr.storeAt, hp, Instr.sureAddr, Sem.run_bind, Sem.run_pure, Result.andThen_ok, storeVar, run_siz hi]
        rw [if_neg (by simp [hsz])]
        simp only [Sem.run_bind, Sem.run_pure, Result.andThen_ok, hrun]
      · exact hw.putO (av := .any) (v := undef) hd (by simp [Rep]) (fun _ => trivial)
    · exact hv.elim
  · exact hv.elim

theorem op_panic {x : Operand} (ho : o.op = .panic x) (hR : RA E B σ a w g) (hv : aop E σ o.dst K Q (.panic x)) : o.wp E.P a w (KC E B K) (QC E B Q) := by
  simp only [aop] at hv
  split at hv
  · rename_i t v hx
    have hr := ASt.ev_rep hR x
    rw [hx] at hr
    have hr' := hr
    simp only [Rep] at hr'
    obtain ⟨y, hy, _⟩ := hr'
    rw [hy] at hr
    have hrun : (execOp a.eval o).run E.P w = .halt (.panic (.iface t y)) w := by
      unfold execOp; simp [ho, Instr.panic, hy]
    unfold Oper.wp
    rw [hrun]
    exact ⟨.panic (.ifc t v), σ, g, hv, ⟨_, rfl, hr⟩, hR⟩
  · exact hv.elim


theorem taken_ra {x : Operand} {d : Nat} (hR : RA E B σ a w g) (hd : d < B.nt) (hx : isTmp d x = false) :
    ∃ g', RA E B { σ with tmps := (d, σ.raw E x) :: (σ.taken x).tmps } (a.put (some d) (a.eval x)) w g' ∧ Later w g σ.heap.length w g' σ.heap.length := by
  cases x with
  | tmp t =>
    have htd : t ≠ d := by simpa [isTmp] using hx
    exact ⟨_, hR.take hd htd, later_re⟩
  | const v => exact ⟨g, hR.put (v := a.eval (.const v)) (av := σ.ev E (.const v)) hd (ASt.ev_rep hR (.const v)) (ASt.ev_noOwn (.const v)).spare, Later.refl _ _ _⟩
  | global i => exact ⟨g, hR.put (v := a.eval (.global i)) (av := σ.ev E (.global i)) hd (ASt.ev_rep hR (.global i)) (ASt.ev_noOwn (.global i)).spare, Later.refl _ _ _⟩
  | func i => exact ⟨g, hR.put (v := a.eval (.func i)) (av := σ.ev E (.func i)) hd (ASt.ev_rep hR (.func i)) (ASt.ev_noOwn (.func i)).spare, Later.refl _ _ _⟩

theorem put_put (a : Act) (i : Nat) (u v : Value) : (a.put (some i) u).put (some i) v = a.put (some i) v := by
  simp [Act.put]

/-- The same reading in a world that has drawn once more. -/
theorem later_drew {w g n} : Later w g n w.drew g n := ⟨Nat.le_refl _, fun _ _ => rfl, fun _ _ _ h h' => ⟨h, h'⟩⟩
theorem later_undrew {w g n w' g' n'} (h : Later w g n w' g' n') : Later w.drew g n w' g' n' := ⟨h.le, h.loc, h.com⟩
theorem Rep.drew {w g n} {av : AV} {v : Value} (h : Rep w g n av v) : Rep w.drew g n av v := Rep.later later_drew _ _ h

theorem Els.copy {w g n k} : ∀ {es : List AV} {b off : Nat}, Els w g n es b off k → ∃ vs, vs.length = es.length * k ∧ Holds w g b off vs ∧
    ∀ w' g' n' b' off', Later w g n w' g' n' → Holds w' g' b' off' vs → Els w' g' n' es b' off' k
  | [], b, off, _ => ⟨[], by simp, fun j u h => by simp at h, fun _ _ _ _ _ _ _ => by simp [Els]⟩
  | e :: es, b, off, h => by
    simp only [Els] at h
    obtain ⟨⟨v, h1, h2, h3⟩, h4⟩ := h
    obtain ⟨vs, h5, h6, h7⟩ := Els.copy h4
    refine ⟨v.cells.toList ++ vs, by simp [h5, h2, Nat.add_mul, Nat.add_comm], fun j u hj => ?_, fun w' g' n' b' off' hl hH => ?_⟩
    · rcases Nat.lt_or_ge j v.cells.toList.length with hlt | hge
      · rw [List.getElem?_append_left hlt] at hj; exact h3 j u hj
      · rw [List.getElem?_append_right hge] at hj
        have := h6 _ u hj
        simp at hge
        rw [show off + k + (j - v.cells.toList.length) = off + j by simp; omega] at this
        exact this
    · simp only [Els]
      refine ⟨⟨v, h1.later hl, h2, fun j u hj => hH j u ?_⟩, h7 _ _ _ _ _ hl fun j u hj => ?_⟩
      · rw [List.getElem?_append_left (List.getElem?_eq_some_iff.1 hj).1]; exact hj
      · have := hH (k + j) u (by rw [List.getElem?_append_right (by simp; omega)]; simpa [h2] using hj)
        rwa [← Nat.add_assoc] at this

theorem elems_run {P : Program} {w : World} {g : Gh} {n : Nat} {base : Option Addr} {es : List AV} {cap k : Nat} (h : ∀ a, base = some a → a.spot = none ∧ Els w g n es a.block a.off k) (hn : base = none → es = []) :
    ∃ us, (Builtin.firstCells k es.length (.slice base es.length cap)).run P w = .ok us.toArray w ∧ us.length = es.length * k ∧
      ∀ w' g' n' b' off', Later w g n w' g' n' → Holds w' g' b' off' us → Els w' g' n' es b' off' k := by
  cases base with
  | none => have := hn rfl; subst this; exact ⟨[], by simp [Builtin.firstCells], by simp, fun _ _ _ _ _ _ _ => by simp [Els]⟩
  | some a =>
    obtain ⟨h6, h7⟩ := h a rfl
    obtain ⟨b, off, spot⟩ := a
    simp only at h6 h7
    subst h6
    obtain ⟨vs, h8, h9, h10⟩ := h7.copy
    refine ⟨vs, ?_, h8, h10⟩
    simp only [Builtin.firstCells]
    rw [← h8]
    exact loadCells_holds fun j u hj => (h9 j u hj).1

theorem holds_left {w g b off} {us vs : List Value} (h : Holds w g b off (us ++ vs)) : Holds w g b off us := fun j u hj =>
  h j u (by rw [List.getElem?_append_left (List.getElem?_eq_some_iff.1 hj).1]; exact hj)
theorem holds_right {w g b off} {us vs : List Value} (h : Holds w g b off (us ++ vs)) : Holds w g b (off + us.length) vs := fun j u hj => by
  have := h (us.length + j) u (by rw [List.getElem?_append_right (by omega)]; simpa using hj)
  rwa [← Nat.add_assoc] at this

theorem op_append {t tx e ty : TypeId} {d : TypeDesc} {inf : TypeInfo} {z : Value} {s x : Operand} {args : Array Operand} {argTypes : Array TypeId} (ho : o.op = .call { callee := .builtin .append, args, argTypes })
    (ha0 : args = #[s, x]) (ht0 : argTypes = #[t, tx])
    (ht : E.P.underlying t = some (.slice e)) (htx : E.P.underlying tx = some d) (hdd : ∀ k, d ≠ .int k) (hi : E.P.info? e = some inf) (hz : inf.zero = some z)
    (hd : DstOk B.nt o.dst) (hR : RA E B σ a w g) (hv : aop E σ o.dst K Q (.append inf.size inf.bytes (z.cells.toList.map ofCell) s x)) : o.wp E.P a w (KC E B K) (QC E B Q) := by
  simp only [aop] at hv
  split at hv
  · rename_i i c es xs hdst hraw hxs
    obtain ⟨⟨hti, hk, hzl⟩, hc, hfx, hone, ⟨hb1, hb2⟩, hK⟩ := hv
    have hil := hd i hdst
    obtain ⟨g1, h1, hl1⟩ := taken_ra hR hil hti
    rw [hraw] at h1
    obtain ⟨hr0, hs0⟩ := h1.tmps i
    simp only [look_cons_same] at hr0 hs0
    rw [getD_put (by rw [hR.nt]; exact hil), if_pos rfl] at hr0 hs0
    obtain ⟨base, cap, hval, hle, hnil, hopen⟩ := own_open hc hr0 hs0
    have hn : base = none → es = [] := fun hb => List.length_eq_zero_iff.1 (by have := hnil hb; omega)
    obtain ⟨vs, hlen, hfc, hRx, hvl⟩ := argElems_run (P := E.P) hxs ((ASt.ev_rep hR x).later hl1) hfx
    obtain ⟨vs', hlen', hfc', hRx', hvl'⟩ := argElems_run (P := E.P) hxs ((ASt.ev_rep hR x).later hl1).drew hfx
    have hexec : ∀ (r : Value) (w' : World), (Builtin.append_ #[t, tx] o.type #[a.eval s, a.eval x]).run E.P w = .ok r w' → (execOp a.eval o).run E.P w = .ok (.value r) w' := by
      intro r w' hh
      unfold execOp
      simp [ho, ha0, ht0, resolve, invoke, builtin, hh]
    have hzs : z.cells.size = inf.size := by simpa using hzl
    by_cases hroom : es.length + xs.length ≤ cap
    · cases base with
      | none =>
        have h0 := hnil rfl
        have he := hn rfl
        have hx0 : xs = [] := List.length_eq_zero_iff.1 (by omega)
        subst hx0 he h0
        have hrun := hexec _ _ (by rw [hval]; exact append_nil (vs := vs) ht htx hdd hi hlen hfc)
        refine wp_value hrun ?_
        rw [hdst]
        refine ⟨_, g1, hK, ?_⟩
        have := RA.put (d := i) (av := .sl (.own inf.size) ([] ++ [])) (v := .slice none 0 0) h1 hil (by simp only [Rep]; exact ⟨none, 0, 0, rfl, rfl, Nat.le_refl _, (fun h => by cases h), (fun _ => rfl), (fun _ h => by cases h)⟩) trivial
        rw [put_put] at this
        refine ⟨this.nt, this.gok, this.gl, fun j => ?_, this.heap, this.st, this.n0, this.defers⟩
        have hj := this.tmps j
        simp only [ASt.put] at hj
        by_cases hij : i = j
        · subst hij; simpa [look] using hj
        · simpa [look, hij] using hj
      | some ad =>
        obtain ⟨hsp, _, _⟩ := hopen ad rfl
        obtain ⟨b, off, spot⟩ := ad
        simp only at hsp
        subst hsp
        obtain ⟨_, hst, g2, h2⟩ := RA.appendIn (E := E) (B := B) h1 (c := c) (es := es) (xs := xs) (b := b) (off := off) (cap := cap) (vs := vs) hil hk (look_cons_same) hc
          (by rw [getD_put (by rw [hR.nt]; exact hil), if_pos rfl]; exact hval) hfx hone hRx hroom
        have hrun := hexec _ _ (by rw [hval]; exact append_in ht htx hdd hi hlen hfc hroom (Reps.ones (by
          rw [List.all_eq_true]; intro y hy; obtain ⟨e0, he0, hy⟩ := List.mem_flatMap.1 hy; have := hone e0 he0; rw [List.all_eq_true] at this; exact this y hy) hRx) hst)
        refine wp_value hrun ?_
        rw [hdst]
        refine ⟨_, g2, hK, ?_⟩
        rw [put_put] at h2
        refine ⟨h2.nt, h2.gok, h2.gl, fun j => ?_, h2.heap, h2.st, h2.n0, h2.defers⟩
        have hj := h2.tmps j
        by_cases hij : i = j
        · subst hij; simpa [look] using hj
        · simpa [look, hij] using hj
    · have hopen' : ∀ a', base = some a' → a'.spot = none ∧ Els w g1 σ.heap.length es a'.block a'.off inf.size := fun a' ha' => ⟨(hopen a' ha').1, (hopen a' ha').2.1⟩
      obtain ⟨us', hu1', hu2', hu3'⟩ := elems_run (P := E.P) (w := w.drew) (g := g1) (n := σ.heap.length) (base := base) (es := es) (cap := cap) (k := inf.size) (fun a' ha' => ⟨(hopen' a' ha').1, Els.later later_drew _ _ _ _ (hopen' a' ha').2⟩) hn
      obtain ⟨newCap, hnc, hrun⟩ := append_new (P := E.P) (w := w) (ty := o.type) (base := base) (sLen := es.length) (cap := cap) (v := a.eval x) (us := us') (vs := vs') ht htx hdd hi hz
        hu1' hlen hfc' (by omega) hb1 hb2
      have hmul : (es.length + xs.length) * inf.size = es.length * inf.size + xs.length * inf.size := Nat.add_mul _ _ _
      have hmul2 : (newCap - (es.length + xs.length)) * inf.size = newCap * inf.size - (es.length + xs.length) * inf.size := Nat.sub_mul _ _ _
      have hmul3 : (es.length + xs.length) * inf.size ≤ newCap * inf.size := Nat.mul_le_mul_right _ hnc
      obtain ⟨g2, h2⟩ := RA.appendNew (E := E) (B := B) (cap := newCap) (lo := 0) (hi' := 0) (w' := w.drew.alloc (.cells (us' ++ vs' ++ (Builtin.zeroCells z.cells (newCap - (es.length + xs.length))).toList).toArray e)) (ys := es ++ xs) (vs := us' ++ vs') (e := e) h1 hil hk
        (fun w' g' b hl hH => Els.append (hu3' w' g' _ b 0 (later_undrew hl) (holds_left hH)) (by
          have h5 := holds_right hH
          rw [hu2'] at h5
          exact Els.of_flat hfx hone h5 (Reps.later (later_undrew hl) _ _ hRx')))
        (by simp [hu2', hvl', hmul]) (by simpa using hnc) (Builtin.zeroCells z.cells (newCap - (es.length + xs.length))).toList
        (by simp [zeroCells_size, hzs, hu2', hvl']; omega) (.inr rfl) ⟨rfl, rfl, rfl, rfl⟩
      refine wp_value (hexec _ _ (by rw [hval]; exact hrun)) ?_
      rw [hdst]
      refine ⟨_, g2, hK, ?_⟩
      rw [put_put] at h2
      have h3 : RA E B { σ with tmps := (i, .sl (.own inf.size) (es ++ xs)) :: (i, .sl c es) :: (σ.taken s).tmps } (a.put (some i) (.slice (some ⟨w.heap.size, 0, none⟩) (es.length + xs.length) newCap)) (w.drew.alloc (.cells (us' ++ vs' ++ (Builtin.zeroCells z.cells (newCap - (es.length + xs.length))).toList).toArray e)) g2 := by
        have := h2; simp only [List.length_append] at this; exact this
      refine ⟨h3.nt, h3.gok, h3.gl, fun j => ?_, h3.heap, h3.st, h3.n0, h3.defers⟩
      have hj := h3.tmps j
      by_cases hij : i = j
      · subst hij; simpa [look] using hj
      · simpa [look, hij] using hj
  · exact hv.elim


theorem modify_push (A : Array Obj) (o o' : Obj) (f : Obj → Obj) (h : f o = o') : (A.push o).modify A.size f = A.push o' := by
  apply Array.ext_getElem?
  intro j
  rw [Array.getElem?_modify, Array.getElem?_push, Array.getElem?_push]
  by_cases hj : A.size = j
  · subst hj; simp [h]
  · rw [if_neg hj, if_neg (Ne.symm hj), if_neg (Ne.symm hj)]

theorem op_toBytes {src dst e : TypeId} {x : Operand} (ho : o.op = .convert src dst x) (h1 : E.P.underlying src = some .string) (h2 : E.P.underlying dst = some (.slice e)) (h3 : E.P.underlying e = some (.int .u8))
    (hd : DstOk B.nt o.dst) (hR : RA E B σ a w g) (hv : aop E σ o.dst K Q (.toBytes x)) : o.wp E.P a w (KC E B K) (QC E B Q) := by
  simp only [aop] at hv
  split at hv
  · rename_i i s hdst hx
    obtain ⟨hsz, hK⟩ := hv
    have hr := ASt.ev_rep hR x
    rw [hx, Rep.lit_iff] at hr
    have hil := hd i hdst
    let cap := (Question.appendCap s.size 0 e).cut (w.tape w.drawn (.appendCap s.size 0 e))
    have hcap : s.size ≤ cap := by simp only [cap, Question.cut]; omega
    let vs : List Value := s.data.toList.map fun b => .int .u8 b.toNat
    let rest : List Value := List.replicate (cap - s.size) (.int .u8 0)
    have hvl : vs.length = s.size := by simp only [vs, List.length_map, Array.length_toList]; rfl
    let w' : World := (w.drew.alloc (.cells (vs ++ rest).toArray e)).freeze ⟨w.heap.size, cap, none⟩ 1
    have hsz2 : (vs ++ rest).toArray.size = cap := by simp [hvl, rest]; omega
    have hpush : Pushed w w' (.cells (vs ++ rest).toArray e (cap, cap + 1)) := by
      refine ⟨?_, rfl, rfl, rfl⟩
      simp only [w', World.freeze, if_neg (show ¬ (1 = 0) by decide), World.alloc]
      exact modify_push w.heap _ _ _ rfl
    obtain ⟨g2, h4⟩ := hR.appendNew (cap := cap) (k := 1) (ys := s.data.toList.map fun b => .lit (.int .u8 b.toNat)) (vs := vs) (e := e) hil (by decide)
      (fun w1 g1 b _ hH => by
        refine Els.of_flat (vs := vs) ?_ ?_ hH ?_
        · intro y hy; simp at hy; obtain ⟨b, _, rfl⟩ := hy; simp [AV.sure, AV.cells]
        · intro y hy; simp at hy; obtain ⟨b, _, rfl⟩ := hy; simp [AV.cells, AV.one, Value.oneCell']
        · have e1 : (s.data.toList.map fun b => AV.lit (Value.int .u8 b.toNat)) = vs.map AV.lit := by simp [vs]
          rw [e1, flat_lits _ (by simp [vs, Value.oneCell'])]
          exact Reps.lits _) (by simp [vs]) (by simp; exact hcap) rest (by simp [hvl, rest]; omega) (lo := cap) (hi' := cap + 1) (.inl (by omega)) hpush
    refine wp_value (v := .slice (some ⟨w.heap.size, 0, none⟩) s.size cap) (w' := w') ?_ ?_
    · have hch : (choose (.appendCap s.size 0 e)).run E.P w = .ok cap w.drew := by rw [run_choose]; rfl
      unfold execOp
      simp only [ho, convert, Sem.run_bind, run_und h1, run_und h2, run_und h3, Result.andThen_ok, hr, Conv.stringToBytes, hch, newRow, run_newObj, Sem.run_pure, markStringish, run_shape]
      have e2 : (s.data.map (fun b => Value.int .u8 b.toNat) ++ Array.replicate (cap - s.size) (Value.int .u8 0)) = (vs ++ rest).toArray := Array.ext' (by simp [vs, rest])
      rw [e2]
      have e3 : (World.alloc w.drew (.cells (vs ++ rest).toArray e)).shape? w.heap.size = some (e, cap) := by
        simp only [World.shape?]
        have := heap_alloc_new w.drew (.cells (vs ++ rest).toArray e)
        rw [World.size_drew] at this
        rw [this]; simp only [hsz2]
      simp only [World.alloc_eq, World.size_drew, e3, run_freeze, Result.andThen_ok]
      rfl
    · rw [hdst]
      refine ⟨_, g2, hK, ?_⟩
      have e4 : (s.data.toList.map fun b => AV.lit (Value.int .u8 b.toNat)).length = s.size := by simp
      rw [e4] at h4
      exact h4
  · exact hv.elim

/-- The same, where nothing is kept of the room behind. -/
theorem op_toBytesU {src dst e : TypeId} {x : Operand} {s : ByteArray} (ho : o.op = .convert src dst x) (h1 : E.P.underlying src = some .string) (h2 : E.P.underlying dst = some (.slice e)) (h3 : E.P.underlying e = some (.int .u8))
    (hd : DstOk B.nt o.dst) (hR : RA E B σ a w g) (hx : σ.ev E x = .lit (.string s)) (hK : K (σ.putO o.dst (.sl .unk (s.data.toList.map fun b => .lit (.int .u8 b.toNat))))) : o.wp E.P a w (KC E B K) (QC E B Q) := by
  have hr := ASt.ev_rep hR x
  rw [hx, Rep.lit_iff] at hr
  let cap := (Question.appendCap s.size 0 e).cut (w.tape w.drawn (.appendCap s.size 0 e))
  have hcap : s.size ≤ cap := by simp only [cap, Question.cut]; omega
  let vs : List Value := s.data.toList.map fun b => .int .u8 b.toNat
  let rest : List Value := List.replicate (cap - s.size) (.int .u8 0)
  have hvl : vs.length = s.size := by simp only [vs, List.length_map, Array.length_toList]; rfl
  let w' : World := (w.drew.alloc (.cells (vs ++ rest).toArray e)).freeze ⟨w.heap.size, cap, none⟩ 1
  have hsz2 : (vs ++ rest).toArray.size = cap := by simp [hvl, rest]; omega
  have hpush : Pushed w w' (.cells (vs ++ rest).toArray e (cap, cap + 1)) := by
    refine ⟨?_, rfl, rfl, rfl⟩
    simp only [w', World.freeze, if_neg (show ¬ (1 = 0) by decide), World.alloc]
    exact modify_push w.heap _ _ _ rfl
  have hg : Grown w g σ.heap.length w' (g.new w.heap.size fun _ => .com) := by
    refine ⟨by rw [hpush.heap]; simp, hpush.os, hpush.output, hpush.tape, fun b hb => by rw [hpush.heap, Array.getElem?_push, if_neg (by omega)], fun b off hb => by simp only [Gh.new]; rw [if_neg (by omega)], fun _ _ => rfl, fun b off ho' => ?_⟩
    rw [hpush.heap]
    simp only [Gh.new] at ho'
    split at ho'
    · simp_all
    · have := hR.gok b off ho'; simp; omega
  have hblk : w'.heap[w.heap.size]? = some (.cells (vs ++ rest).toArray e (cap, cap + 1)) := by rw [hpush.heap]; simp
  refine wp_value (v := .slice (some ⟨w.heap.size, 0, none⟩) s.size cap) (w' := w') ?_ ?_
  · have hch : (choose (.appendCap s.size 0 e)).run E.P w = .ok cap w.drew := by rw [run_choose]; rfl
    unfold execOp
    simp only [ho, convert, Sem.run_bind, run_und h1, run_und h2, run_und h3, Result.andThen_ok, hr, Conv.stringToBytes, hch, newRow, run_newObj, Sem.run_pure, markStringish, run_shape]
    have e2 : (s.data.map (fun b => Value.int .u8 b.toNat) ++ Array.replicate (cap - s.size) (Value.int .u8 0)) = (vs ++ rest).toArray := Array.ext' (by simp [vs, rest])
    rw [e2]
    have e3 : (World.alloc w.drew (.cells (vs ++ rest).toArray e)).shape? w.heap.size = some (e, cap) := by
      simp only [World.shape?]
      have := heap_alloc_new w.drew (.cells (vs ++ rest).toArray e)
      rw [World.size_drew] at this
      rw [this]; simp only [hsz2]
    simp only [World.alloc_eq, World.size_drew, e3, run_freeze, Result.andThen_ok]
    rfl
  · refine ⟨_, _, hK, (hR.grow' hg).putO hd ?_ (fun _ => trivial)⟩
    simp only [Rep]
    refine ⟨_, _, _, rfl, by simp, hcap, (fun h => by cases h), (fun h => by cases h), fun a' ha' => ?_⟩
    cases ha'
    refine ⟨rfl, 1, Els.of_flat (vs := vs) ?_ ?_ (fun j u hj => ⟨?_, ?_⟩) ?_⟩
    · intro y hy; simp at hy; obtain ⟨b, _, rfl⟩ := hy; simp [AV.sure, AV.cells]
    · intro y hy; simp at hy; obtain ⟨b, _, rfl⟩ := hy; simp [AV.cells, AV.one, Value.oneCell']
    · rw [cell_of_heap hblk]
      have : j < vs.length := (List.getElem?_eq_some_iff.1 hj).1
      simp only [Nat.zero_add, List.getElem?_toArray]
      rw [List.getElem?_append_left this]; exact hj
    · simp [Gh.new]
    · have e1 : (s.data.toList.map fun b => AV.lit (Value.int .u8 b.toNat)) = vs.map AV.lit := by simp [vs]
      rw [e1, flat_lits _ (by simp [vs, Value.oneCell'])]
      exact Reps.lits _

/-- An object is let go: its cells will be written no more. -/
theorem RA.commitObj {E B σ a w g} (h : RA E B σ a w g) {id : Nat} {l : List AV} (hl : σ.heap[id]? = some (.cells l)) :
    ∃ g' vs, RA E B { σ with heap := σ.heap.set id .gone } a (w.freeze ⟨g.loc id, l.length, none⟩ 1) g' ∧ g'.loc = g.loc ∧
      Holds (w.freeze ⟨g.loc id, l.length, none⟩ 1) g' (g.loc id) 0 vs ∧ Reps (w.freeze ⟨g.loc id, l.length, none⟩ 1) g' σ.heap.length l vs ∧
      w.shape? (g.loc id) = some ((h.heap id l hl).choose_spec.choose, l.length) := by
  have hcs := (h.heap id l hl).choose_spec.choose_spec
  generalize (h.heap id l hl).choose_spec.choose = e at hcs ⊢
  generalize (h.heap id l hl).choose = cs at hcs
  have hc := hcs
  have hid : id < σ.heap.length := by
    rcases Nat.lt_or_ge id σ.heap.length with h' | h'
    · exact h'
    · rw [List.getElem?_eq_none h'] at hl; cases hl
  let w' := w.freeze ⟨g.loc id, l.length, none⟩ 1
  let g' : Gh := { own := fun b off => if b = g.loc id then .com else g.own b off, loc := g.loc }
  have hlt := lt_of_heap hc.blk
  have hw' : w'.heap = w.heap.modify (g.loc id) fun
      | .cells c elem (lo, hi) => .cells c elem (if lo == hi then (l.length, l.length + 1) else (min lo l.length, max hi (l.length + 1)))
      | o => o := rfl
  have hself : w'.heap[g.loc id]? = some (.cells cs e (l.length, l.length + 1)) := by
    rw [hw', Array.getElem?_modify, if_pos rfl, hc.blk]; rfl
  have hother : ∀ b, b ≠ g.loc id → w'.heap[b]? = w.heap[b]? := fun b hb => by
    rw [hw', Array.getElem?_modify, if_neg (Ne.symm hb)]
  have hsz : w'.heap.size = w.heap.size := by rw [hw']; simp
  have hb : ∀ b off', g.own b off' ≠ .obj id → b ≠ g.loc id := fun b off' ho hbb => ho (by rw [hbb]; exact hc.own off')
  have hlater : Later w g σ.heap.length w' g' (σ.heap.set id .gone).length := by
    refine ⟨by simp, fun _ _ => rfl, fun b off' u hcu ho => ⟨?_, ?_⟩⟩
    · rw [World.cell?_of_block (w := w) (hother b (hb b off' (by rw [ho]; simp)))]; exact hcu
    · show (if b = g.loc id then Own.com else g.own b off') = _
      rw [ho]; split <;> rfl
  have hks : ∀ s, KeepsSp w g w' g' s := fun s b off' u ho hcu hf => by
    have hne := hb b off' (by rw [ho]; simp)
    have hbb := hother b hne
    refine ⟨?_, ⟨u, by rw [World.cell?_of_block (w := w) hbb]; exact hcu⟩, by rw [World.frozen?_of_block (w := w) hbb]; exact hf⟩
    show (if b = g.loc id then Own.com else g.own b off') = _
    rw [if_neg hne, ho]
  refine ⟨g', cs.toList, ⟨h.nt, fun b off' ho => ?_, h.gl.later hlater.to_zero, h.tmps.step hlater (fun i => hks _), ?_, ?_, by simpa using h.n0, h.defers⟩, rfl, fun j u hj => ⟨?_, ?_⟩, ?_, ?_⟩
  · show b < w'.heap.size
    rw [hsz]
    by_cases hbb : b = g.loc id
    · rw [hbb]; exact hlt
    · refine h.gok b off' ?_
      have : g'.own b off' = g.own b off' := by show (if b = g.loc id then Own.com else g.own b off') = _; rw [if_neg hbb]
      rwa [this] at ho
  · intro id' l' hl'
    by_cases hii : id = id'
    · subst hii; simp [List.getElem?_set_self hid] at hl'
    · rw [List.getElem?_set_ne hii] at hl'
      obtain ⟨vs', e', hc'⟩ := h.heap id' l' hl'
      have hid' : id' < σ.heap.length := by
        rcases Nat.lt_or_ge id' σ.heap.length with h' | h'
        · exact h'
        · rw [List.getElem?_eq_none h'] at hl'; cases hl'
      have hne : g.loc id' ≠ g.loc id := hb _ 0 (by rw [hc'.own 0]; intro hh; cases hh; exact hii rfl)
      refine ⟨vs', e', hc'.step hid' hlater (hother _ hne) (fun off => ?_) (fun j => hks _)⟩
      show (if g.loc id' = g.loc id then Own.com else g.own (g.loc id') off) = _
      rw [if_neg hne]
  · refine h.st.trans (n := σ.heap.length) ⟨by rw [hsz]; exact Nat.le_refl _, rfl, rfl, rfl, fun b hbl ho => hother b ?_, fun b c2 e2 fr2 hcc => ?_, fun b off' hbl => ⟨fun ho => ?_, fun ho => ?_⟩, fun _ _ => rfl⟩ h.n0
    · refine hb b 0 ?_
      rcases ho 0 with ho | ho <;> rw [ho] <;> simp
    · by_cases hbb : b = g.loc id
      · subst hbb
        rw [hc.blk] at hcc
        cases hcc
        refine ⟨cs, _, hself, rfl, fun off' ho => ?_⟩
        rcases ho with ho | ho <;> rw [hc.own] at ho <;> cases ho
      · exact ⟨c2, fr2, by rw [hother b hbb]; exact hcc, rfl, fun _ _ => ⟨rfl, rfl⟩⟩
    · show (if b = g.loc id then Own.com else g.own b off') = _
      rw [if_neg (hb b off' (by rw [ho]; simp)), ho]
    · show (if b = g.loc id then Own.com else g.own b off') = _
      rw [ho]; split <;> rfl
  · show w'.cell? _ = _
    rw [cell_of_heap hself]; simpa using hj
  · show (if g.loc id = g.loc id then Own.com else _) = _
    rw [if_pos rfl]
  · refine Reps.of_get (by simpa using hc.size) fun i av v hi hv => ?_
    obtain ⟨v', h1, h2, _⟩ := hc.rep i av hi
    have : v' = v := by
      have h3 : cs.toList[i]? = some v' := by simpa using h1
      rw [h3] at hv; exact Option.some.inj hv
    subst this
    have := h2.later hlater
    simpa using this
  · unfold World.shape?; rw [hc.blk]; simp [hc.size]

theorem flatC_ones : ∀ {l : List AV}, (∀ av, av ∈ l → av.cells = [av]) → flatC l = l
  | [], _ => rfl
  | y :: l, h => by
    have := flatC_ones (l := l) fun z hz => h z (by simp [hz])
    unfold flatC at this ⊢
    rw [List.flatMap_cons, h y (by simp), this]; rfl

theorem op_conv8 {src dst e e' : TypeId} {x : Operand} (ho : o.op = .convert src dst x) (hsd : src = dst) (h1 : E.P.underlying src = some (.slice e')) (h2 : E.P.underlying dst = some (.slice e)) (h3 : E.P.underlying e = some (.int .u8))
    (hd : DstOk B.nt o.dst) (hR : RA E B σ a w g) (hv : aop E σ o.dst K Q (.conv8 x)) : o.wp E.P a w (KC E B K) (QC E B Q) := by
  simp only [aop] at hv
  split at hv
  · rename_i id off len cap hx
    split at hv
    · rename_i l hl
      obtain ⟨⟨h0, hlen, hone, hcl⟩, hK⟩ := hv
      subst h0 hlen
      have hr := ASt.ev_rep hR x
      rw [hx] at hr
      simp only [Rep] at hr
      obtain ⟨hxv, hid, hle⟩ := hr
      obtain ⟨g', vs, hRA, hloc, hH, hRs, hsh⟩ := hR.commitObj hl
      refine wp_value (v := a.eval x) (w' := w.freeze ⟨g.loc id, l.length, none⟩ 1) ?_ ?_
      · unfold execOp
        simp only [ho, convert, Sem.run_bind, run_und h1, run_und h2, run_und h3, Result.andThen_ok, hxv, markStringish, run_shape, hsd, beq_self_eq_true]
        simp [hsh, run_freeze]
      · refine ⟨_, g', hK, hRA.putO hd ?_ (fun _ => trivial)⟩
        simp only [Rep, hxv]
        refine ⟨_, _, _, rfl, rfl, hle, (fun h => by cases h), (fun h => by cases h), fun a' ha' => ?_⟩
        cases ha'
        refine ⟨rfl, 1, Els.of_flat (vs := vs) ?_ ?_ ?_ ?_⟩
        · intro y hy; exact ⟨(hcl y hy).1, by rw [(hcl y hy).2]; rfl⟩
        · intro y hy; rw [(hcl y hy).2]; simpa using List.all_eq_true.1 hone y hy
        · exact hH
        · have : flatC l = l := flatC_ones fun y hy => (hcl y hy).2
          rw [this]
          simpa using hRs
    · exact hv.elim
  · exact hv.elim

end Go.Abs
