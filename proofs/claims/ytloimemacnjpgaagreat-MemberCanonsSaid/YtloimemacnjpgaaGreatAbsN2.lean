/- Slices that their holder writes: appended to, made, cleared. -/
import Derived.Test.YtloimemacnjpgaaGreatAbsM
set_option linter.all false
namespace Go.Abs
open Go Go.RowKit

variable {E : Env} {B : Base} {σ : ASt} {a : Act} {w : World} {g : Gh} {K : ASt → Prop} {Q : AEx → ASt → Prop} {o : Oper} {P : Program}

theorem RA.newPushed (h : RA E B σ a w g) {l : List AV} {vs : Array Value} {e : TypeId} {w' : World} (hp : Pushed w w' (.cells vs e (0, 0))) (hr : Reps w g σ.heap.length l vs.toList) (hno : ∀ av ∈ l, NoOwn av) :
    ∃ g', RA E B { σ with heap := σ.heap ++ [.cells l] } a w' g' ∧ g'.loc σ.heap.length = w.heap.size := by
  let g' : Gh := { own := fun b' off => if b' = w.heap.size then .obj σ.heap.length else g.own b' off, loc := fun i => if i = σ.heap.length then w.heap.size else g.loc i }
  have hg : Grown w g σ.heap.length w' g' := {
    size := by rw [hp.heap]; simp
    os := hp.os
    output := hp.output
    tape := hp.tape
    blk := fun b hb => by rw [hp.heap, Array.getElem?_push, if_neg (by omega)]
    own := fun b off hb => by simp only [g']; rw [if_neg (by omega)]
    loc := fun id hi => by simp only [g']; rw [if_neg (by omega)]
    gok := fun b off ho => by
      rw [hp.heap]
      simp only [g'] at ho
      split at ho
      · simp_all
      · have := h.gok b off ho; simp; omega }
  refine ⟨g', h.grow hg (List.prefix_append _ _) fun id o' hid hl => ?_, by simp [g']⟩
  have hid' : id = σ.heap.length := by
    rcases Nat.lt_or_ge σ.heap.length id with h' | h'
    · rw [List.getElem?_eq_none (by simp; omega)] at hl; cases hl
    · omega
  subst hid'
  rw [List.getElem?_append_right (Nat.le_refl _)] at hl
  simp at hl
  subst hl
  refine ⟨vs, e, ?_, ?_, by simpa using hr.length, ?_, ?_, ?_⟩
  · simp only [g', if_true]; rw [hp.heap]; simp
  · intro off; simp [g']
  · intro j av hj
    obtain ⟨v, h1, h2⟩ := hr.get j av hj
    refine ⟨v, by simpa using h1, h2.later (hg.later (by simp)), (hno av (List.mem_of_getElem? hj)).spare⟩
  · intro e' he; exact absurd rfl ((hno _ (List.mem_of_getElem? he)).2.1 _)
  · intro j te b hb; exact absurd rfl ((hno _ (List.mem_of_getElem? hb)).2.2 _ _)

theorem zerosL_reps {n : Nat} (z : Array Value) (m : Nat) : Reps w g n (zerosL m (z.toList.map ofCell)) (Builtin.zeroCells z m).toList := by
  have h1 : (Builtin.zeroCells z m).toList = (List.replicate m z.toList).flatten := by
    apply List.ext_getElem?
    intro i
    simp only [Builtin.zeroCells]
    by_cases hz : z.size = 0
    · have : z.toList = [] := List.length_eq_zero_iff.1 (by simpa using hz)
      simp [this, hz]
    · have hlen : ∀ (k : Nat), ((List.replicate k z.toList).flatten).length = k * z.size := by intro k; simp
      have hget : ∀ (k i : Nat), i < k * z.size → ((List.replicate k z.toList).flatten)[i]? = some z[i % z.size]! := by
        intro k
        induction k with
        | zero => intro i hi; simp at hi
        | succ k ih =>
          intro i hi
          rw [List.replicate_succ, List.flatten_cons]
          by_cases hi2 : i < z.size
          · rw [List.getElem?_append_left (by simpa using hi2), Nat.mod_eq_of_lt hi2]
            simp [hi2]
          · rw [List.getElem?_append_right (by simp; omega)]
            rw [show z.toList.length = z.size by simp, ih (i - z.size) (by rw [Nat.add_mul, Nat.one_mul] at hi; omega)]
            rw [← Nat.mod_eq_sub_mod (by omega)]
      by_cases hi : i < m * z.size
      · rw [hget m i hi]; simp [hi]
      · rw [List.getElem?_eq_none (by simp; omega), List.getElem?_eq_none (by rw [hlen]; omega)]
  have h2 : zerosL m (z.toList.map ofCell) = (List.replicate m z.toList).flatten.map ofCell := by
    simp only [zerosL]
    induction m with
    | zero => simp
    | succ m ih => simp [List.replicate_succ, ih]
  rw [h1, h2]
  exact Reps.ofCells _
theorem zerosL_noOwn (z : List Value) (m : Nat) : ∀ av ∈ zerosL m (z.map ofCell), NoOwn av := by
  intro av h
  simp only [zerosL, List.mem_flatten, List.mem_replicate] at h
  obtain ⟨l, ⟨_, rfl⟩, h⟩ := h
  obtain ⟨x, _, rfl⟩ := List.mem_map.1 h
  exact ofCell_noOwn _

theorem op_appendO {t tx e ty : TypeId} {d : TypeDesc} {inf : TypeInfo} {z : Value} {s x : Operand} {args : Array Operand} {argTypes : Array TypeId} (ho : o.op = .call { callee := .builtin .append, args, argTypes })
    (ha0 : args = #[s, x]) (ht0 : argTypes = #[t, tx])
    (ht : E.P.underlying t = some (.slice e)) (htx : E.P.underlying tx = some d) (hdd : ∀ k, d ≠ .int k) (hi : E.P.info? e = some inf) (hz : inf.zero = some z)
    (hd : DstOk B.nt o.dst) (hR : RA E B σ a w g) (hv : aop E σ o.dst K Q (.appendO inf.size inf.bytes (z.cells.toList.map ofCell) s x)) : o.wp E.P a w (KC E B K) (QC E B Q) := by
  have hexec : ∀ (r : Value) (w' : World), (Builtin.append_ #[t, tx] o.type #[a.eval s, a.eval x]).run E.P w = .ok r w' → (execOp a.eval o).run E.P w = .ok (.value r) w' := by
    intro r w' hh
    unfold execOp
    simp [ho, ha0, ht0, resolve, invoke, builtin, hh]
  have hrs := ASt.ev_rep hR s
  have hrx := ASt.ev_rep hR x
  simp only [aop] at hv
  split at hv
  · rename_i id off len cap xs e1 hxs
    rw [e1] at hrs
    simp only [Rep] at hrs
    obtain ⟨hval, hid, hlc⟩ := hrs
    split at hv
    · rename_i l hl
      obtain ⟨⟨hk, hzl, hfx, hone, hll, hb1, hb2⟩, hin, hnew⟩ := hv
      have hzs : z.cells.size = inf.size := by simpa using hzl
      obtain ⟨cs, e0, hc⟩ := hR.heap.cells id l hl
      obtain ⟨vs, hlen, hfc, hRx, hvl⟩ := argElems_run (P := E.P) hxs hrx hfx
      obtain ⟨vs', hlen', hfc', hRx', hvl'⟩ := argElems_run (P := E.P) hxs hrx.drew hfx
      by_cases hroom : len + xs.length ≤ cap
      · obtain ⟨hle, hK⟩ := hin hroom
        have hmul : (len + xs.length) * inf.size = len * inf.size + xs.length * inf.size := Nat.add_mul _ _ _
        have hones : ∀ v ∈ vs, v.oneCell' = true := Reps.ones (by
          rw [List.all_eq_true]; intro y hy; obtain ⟨e0, he0, hy⟩ := List.mem_flatMap.1 hy; have := hone e0 he0; rw [List.all_eq_true] at this; exact this y hy) hRx
        have hrun := hexec _ _ (by rw [hval]; exact append_in ht htx hdd hi hlen hfc hroom hones (fun j hj => by
          refine ⟨?_, by rw [frozen_of_block hc.blk]; simp⟩
          rw [cell_of_heap hc.blk]
          exact ⟨_, Array.getElem?_eq_getElem (by rw [hc.size]; omega)⟩))
        have hw := hR.write (off := off + len * inf.size) (avs := (flatC xs).map AV.strip) (vs := vs) hl (Reps.stripAll hRx) (noOwn_stripAll _) (by
          have := flatC_fit hfx
          simp; omega)
        refine wp_value hrun ⟨_, g, hK, hw.putO hd ?_ (fun _ => trivial)⟩
        simp only [Rep, List.length_set]
        exact ⟨trivial, hid, hroom⟩
      · have hcr : cap < len + xs.length := by omega
        have hus : (Builtin.firstCells inf.size len (.slice (some ⟨g.loc id, off, none⟩) len cap)).run E.P w.drew = .ok ((cs.toList.drop off).take (len * inf.size)).toArray w.drew := by
          have hlen2 : ((cs.toList.drop off).take (len * inf.size)).length = len * inf.size := by
            have := hc.size
            simp; omega
          simp only [Builtin.firstCells]
          have hlc := loadCells_holds (P := E.P) (w := w.drew) (b := g.loc id) (off := off) (vs := (cs.toList.drop off).take (len * inf.size)) ?_
          · rw [hlen2] at hlc; exact hlc
          intro j u hj
          have hbd : w.drew.heap[g.loc id]? = some (.cells cs e0 (0, 0)) := hc.blk
          rw [cell_of_heap hbd]
          rw [List.getElem?_take] at hj
          split at hj
          · rw [List.getElem?_drop] at hj; simpa using hj
          · cases hj
        obtain ⟨newCap, hnc, hrun⟩ := append_new (P := E.P) (w := w) (ty := o.type) (base := some ⟨g.loc id, off, none⟩) (sLen := len) (cap := cap) (v := a.eval x) ht htx hdd hi hz hus hlen hfc' hcr hb1 hb2
        have hrep : Reps w g σ.heap.length (((l.drop off).take (len * inf.size)).map AV.strip) ((cs.toList.drop off).take (len * inf.size)) := by
          have hcl : Reps w g σ.heap.length (l.map AV.strip) cs.toList := Reps.of_get (by simp [hc.size]) fun i a v hi hv => by
            rw [List.getElem?_map, Option.map_eq_some_iff] at hi
            obtain ⟨av, hav, rfl⟩ := hi
            obtain ⟨v', h1, h2, _⟩ := hc.rep i av hav
            have : v' = v := by
              have h3 : cs.toList[i]? = some v' := by simpa using h1
              rw [h3] at hv; exact Option.some.inj hv
            subst this
            exact h2.strip
          have := (hcl.drop off).take (len * inf.size)
          rw [List.map_take, List.map_drop]; exact this
        have hRxw : Reps w g σ.heap.length ((flatC xs).map AV.strip) vs' := Reps.stripAll (Reps.later (later_undrew (Later.refl w g σ.heap.length)) _ _ hRx')
        obtain ⟨g2, h2, hloc⟩ := hR.newPushed (w' := w.drew.alloc (.cells (((cs.toList.drop off).take (len * inf.size)) ++ vs' ++ (Builtin.zeroCells z.cells (newCap - (len + xs.length))).toList).toArray e)) (e := e)
          (vs := (((cs.toList.drop off).take (len * inf.size)) ++ vs' ++ (Builtin.zeroCells z.cells (newCap - (len + xs.length))).toList).toArray)
          (l := ((l.drop off).take (len * inf.size)).map AV.strip ++ (flatC xs).map AV.strip ++ zerosL (newCap - (len + xs.length)) (z.cells.toList.map ofCell)) ⟨rfl, rfl, rfl, rfl⟩
          (by simpa using Reps.append (Reps.append hrep hRxw) (zerosL_reps z.cells _)) (by
            intro av hav
            rcases List.mem_append.1 hav with hav | hav
            · rcases List.mem_append.1 hav with hav | hav
              · exact noOwn_stripAll _ av hav
              · exact noOwn_stripAll _ av hav
            · exact zerosL_noOwn _ _ av hav)
        refine wp_value (hexec _ _ (by rw [hval]; exact hrun)) ⟨_, g2, hnew hcr newCap hnc, h2.putO hd ?_ (fun _ => trivial)⟩
        simp only [Rep, hloc]
        exact ⟨trivial, by simp, hnc⟩
    · exact hv.elim
  · rename_i es xs e1 hxs
    rw [e1] at hrs
    simp only [Rep] at hrs
    obtain ⟨base, len, cap, hval, hel, hle, hfull, hnil, hopen⟩ := hrs
    have hcl := hfull trivial
    obtain ⟨⟨hk, hzl, hfe, hfx, hone, hb1, hb2⟩, hno, hnew⟩ := hv
    have hzs : z.cells.size = inf.size := by simpa using hzl
    by_cases hx0 : xs = []
    · obtain ⟨he, hK⟩ := hno hx0
      subst hx0 he
      obtain ⟨vs, hlen, hfc, hRx, hvl⟩ := argElems_run (P := E.P) hxs hrx hfx
      have hl0 : len = 0 := hel.symm
      subst hl0 hcl
      have hvs : vs = [] := List.length_eq_zero_iff.1 (by simpa using hvl)
      refine wp_value (v := a.eval s) (w' := w) (hexec _ _ ?_) ⟨_, g, hK, hR.putO hd (by rw [← e1]; exact ASt.ev_rep hR s) (fun _ => trivial)⟩
      rw [hval]
      cases base with
      | none => exact append_nil (vs := vs) ht htx hdd hi hlen hfc
      | some ad => exact append_zero (vs := vs) ht htx hdd hi hlen hfc hvs
    · have hpos : 0 < xs.length := List.length_pos_iff.2 hx0
      obtain ⟨vs, hlen, hfc, hRx, hvl⟩ := argElems_run (P := E.P) hxs hrx hfx
      obtain ⟨vs', hlen', hfc', hRx', hvl'⟩ := argElems_run (P := E.P) hxs hrx.drew hfx
      obtain ⟨us', _, hu1', husd, _⟩ := argElems_run (P := E.P) (x := .sl .full es) (k := inf.size) rfl (by rw [← e1]; exact (ASt.ev_rep hR s).drew) hfe
      rw [hval] at hu1'
      rw [← hel] at hu1'
      have hus := Reps.later (later_undrew (Later.refl w g σ.heap.length)) _ _ husd
      obtain ⟨newCap, hnc, hrun⟩ := append_new (P := E.P) (w := w) (ty := o.type) (base := base) (sLen := es.length) (cap := cap) (v := a.eval x) (us := us') (vs := vs') ht htx hdd hi hz
        hu1' hlen hfc' (by omega) hb1 hb2
      obtain ⟨g2, h2, hloc⟩ := hR.newPushed (w' := w.drew.alloc (.cells (us' ++ vs' ++ (Builtin.zeroCells z.cells (newCap - (es.length + xs.length))).toList).toArray e)) (e := e)
        (vs := (us' ++ vs' ++ (Builtin.zeroCells z.cells (newCap - (es.length + xs.length))).toList).toArray)
        (l := (flatC es).map AV.strip ++ (flatC xs).map AV.strip ++ zerosL (newCap - (es.length + xs.length)) (z.cells.toList.map ofCell)) ⟨rfl, rfl, rfl, rfl⟩
        (by simpa using Reps.append (Reps.append (Reps.stripAll hus) (Reps.stripAll (Reps.later (later_undrew (Later.refl w g σ.heap.length)) _ _ hRx'))) (zerosL_reps z.cells _)) (by
          intro av hav
          rcases List.mem_append.1 hav with hav | hav
          · rcases List.mem_append.1 hav with hav | hav
            · exact noOwn_stripAll _ av hav
            · exact noOwn_stripAll _ av hav
          · exact zerosL_noOwn _ _ av hav)
      refine wp_value (hexec _ _ (by rw [hval, ← hel]; exact hrun)) ⟨_, g2, hnew hx0 newCap hnc, h2.putO hd ?_ (fun _ => trivial)⟩
      simp only [Rep, hloc]
      exact ⟨trivial, by simp, hnc⟩
  · exact hv.elim
theorem op_makeSlice {obj : Bool} {t e : TypeId} {inf : TypeInfo} {z : Value} {x y : Operand} (ho : o.op = .makeSlice t x y) (hu : E.P.underlying t = some (.slice e)) (hi : E.P.info? e = some inf) (hz : inf.zero = some z)
    (hd : DstOk B.nt o.dst) (hR : RA E B σ a w g) (hv : aop E σ o.dst K Q (.makeSlice obj inf.size inf.bytes (z.cells.toList.map ofCell) x y)) : o.wp E.P a w (KC E B K) (QC E B Q) := by
  simp only [aop] at hv
  split at hv
  · rename_i k1 l k2 c e1 e2
    obtain ⟨⟨h0, h1, hk, hzl, hb, hc62⟩, hK⟩ := hv
    have hzs : z.cells.size = inf.size := by simpa using hzl
    have hx := ASt.ev_rep hR x
    have hy := ASt.ev_rep hR y
    rw [e1, Rep.lit_iff] at hx
    rw [e2, Rep.lit_iff] at hy
    have hwl : IntKind.i64.wrap l = l := by simp [IntKind.wrap, IntKind.signed, IntKind.bits]; omega
    have hwc : IntKind.i64.wrap c = c := by simp [IntKind.wrap, IntKind.signed, IntKind.bits]; omega
    have hzc : ((Array.range (c.toNat * inf.size)).map (z.cells[· % z.cells.size]!)) = Builtin.zeroCells z.cells c.toNat := by simp only [Builtin.zeroCells, hzs]
    obtain ⟨q1, q2⟩ := hR.newObj (e := e) (l := zerosL c.toNat (z.cells.toList.map ofCell)) (vs := Builtin.zeroCells z.cells c.toNat) (zerosL_reps _ _) (zerosL_noOwn _ _)
    refine wp_value (v := .slice (some ⟨w.heap.size, 0, none⟩) l.toNat c.toNat) (w' := w.alloc (.cells (Builtin.zeroCells z.cells c.toNat) e)) ?_ ⟨_, _, hK, q1.putO hd ?_ (fun _ => trivial)⟩
    · have hnl : ¬ (l < 0) := by omega
      have hnc : ¬ (c < 0) := by omega
      have hlc : ¬ (c < l) := by omega
      have hbb : ¬ ((2 : Int) ^ 48 < (inf.bytes : Int) * c) := by omega
      unfold execOp
      simp only [ho, Instr.makeSlice, Sem.run_bind, run_und hu, Result.andThen_ok, hx, hy, asInt, asIntOf, Sem.run_pure, run_inf hi, hwl, hwc]
      simp only [hnl, hnc, hlc, hbb, decide_false, Bool.or_false, Bool.false_eq_true, if_false]
      by_cases hc0 : c.toNat = 0
      · have hz0 : Builtin.zeroCells z.cells c.toNat = #[] := Array.eq_empty_of_size_eq_zero (by simp [Builtin.zeroCells, hc0])
        simp [run_askRoom, run_siz hi, hc0, newRow, Builtin.zeroCells]
        congr 2
        exact Array.ext (by simp) (by simp)
      · have hne : ¬ (c.toNat * inf.size = 0) := by
          intro h; rcases Nat.mul_eq_zero.1 h with h | h <;> omega
        simp only [Sem.run_bind, run_askRoom, run_siz hi, Result.andThen_ok, hne, if_false, zeroValue, run_inf hi, hz, Sem.run_pure, hzc, newRow]
        simp
    · simp only [Rep, q2]; exact ⟨trivial, by simp, by omega⟩
  · exact hv.elim

theorem op_clearS {t e : TypeId} {inf : TypeInfo} {z : Value} {x : Operand} {args : Array Operand} {argTypes : Array TypeId} (ho : o.op = .call { callee := .builtin .clear, args, argTypes }) (hx0 : args[0]? = some x) (ht0 : argTypes[0]? = some t)
    (hu : E.P.underlying t = some (.slice e)) (hi : E.P.info? e = some inf) (hz : inf.zero = some z)
    (hd : DstOk B.nt o.dst) (hR : RA E B σ a w g) (hv : aop E σ o.dst K Q (.clearS inf.size (z.cells.toList.map ofCell) x)) : o.wp E.P a w (KC E B K) (QC E B Q) := by
  have hx := ASt.ev_rep hR x
  simp only [aop] at hv
  split at hv
  · rename_i id off len cap e1
    rw [e1] at hx
    simp only [Rep] at hx
    obtain ⟨hval, hid, hlc⟩ := hx
    split at hv
    · rename_i l hl
      obtain ⟨⟨hzl, hle, hone⟩, hK⟩ := hv
      have hzs : z.cells.size = inf.size := by simpa using hzl
      obtain ⟨cs, e0, hc⟩ := hR.heap.cells id l hl
      have hlen : (zerosL len (z.cells.toList.map ofCell)).length = len * inf.size := by
        have := (zerosL_reps (w := w) (g := g) (n := 0) z.cells len).length
        simp [Builtin.zeroCells, hzs] at this
        omega
      have hw := hR.write (off := off) (avs := zerosL len (z.cells.toList.map ofCell)) (vs := (Builtin.zeroCells z.cells len).toList) hl (zerosL_reps _ _) (zerosL_noOwn _ _) (by omega)
      have hst : (storeCells ⟨g.loc id, off, none⟩ (Builtin.zeroCells z.cells len).toList).run E.P w = .ok () (setRow w (g.loc id) off (Builtin.zeroCells z.cells len).toList) := by
        have hr := zerosL_reps (w := w) (g := g) (n := 0) z.cells len
        have := run_storeCells (P := E.P) (Builtin.zeroCells z.cells len).toList w (g.loc id) off 0 (Reps.ones (by
          rw [List.all_eq_true]; intro y hy
          simp only [zerosL, List.mem_flatten, List.mem_replicate] at hy
          obtain ⟨l', ⟨_, rfl⟩, hy⟩ := hy
          rw [List.all_eq_true] at hone
          exact hone y hy) hr) ?_
        · simpa using this
        · intro j hj
          have hl2 := hr.length
          simp only [Nat.add_zero] at *
          refine ⟨?_, by rw [frozen_of_block hc.blk]; simp⟩
          rw [cell_of_heap hc.blk]
          exact ⟨_, Array.getElem?_eq_getElem (by rw [hc.size]; omega)⟩
      refine wp_value (v := .tuple #[]) (w' := setRow w (g.loc id) off (Builtin.zeroCells z.cells len).toList) ?_ ⟨_, g, hK, hw.putO hd ?_ (fun _ => trivial)⟩
      · unfold execOp
        rcases Nat.eq_zero_or_pos len with h0 | h0
        · subst h0
          simp [ho, resolve, invoke, builtin, Builtin.clear_, hx0, ht0, hval, run_und hu, Builtin.zeroCells, setRow]
        · obtain ⟨m, rfl⟩ : ∃ m, len = m + 1 := ⟨len - 1, by omega⟩
          simp [ho, resolve, invoke, builtin, Builtin.clear_, hx0, ht0, hval, run_und hu, zeroValue, run_inf hi, hz, hst]
      · simp only [Rep]; exact ⟨#[], rfl, by simp [Reps]⟩
    · exact hv.elim
  · exact hv.elim
theorem op_eqNil {t e : TypeId} {x : Operand} {neg : Bool} {op : BinOp} {ty : TypeId} (hop : op = if neg then .neq else .eql) (ho : o.op = .binOp op t x (.const (.slice none 0 0)) ty) (hu : E.P.underlying t = some (.slice e))
    (hd : DstOk B.nt o.dst) (hR : RA E B σ a w g) (hv : aop E σ o.dst K Q (.eqNil neg x)) : o.wp E.P a w (KC E B K) (QC E B Q) := by
  have hx := ASt.ev_rep hR x
  have run : ∀ (base : Option Addr) (len cap : Nat), a.eval x = .slice base len cap → (execOp a.eval o).run E.P w = .ok (.value (.bool (xor neg base.isNone))) w := by
    intro base len cap hx
    have heq : (Op.equalIn 10000 t (.slice base len cap) (.slice none 0 0)).run E.P w = .ok base.isNone w := by
      rw [show (10000 : Nat) = 9999 + 1 from rfl, Op.equalIn]
      simp only [Sem.run_bind, run_und hu, Result.andThen_ok]
      cases base <;> simp
    have hgd : ∀ op', (eqGuard op' t x (.const (.slice none 0 0)) (.slice base len cap) (.slice none 0 0)).run E.P w = .ok () w := by
      intro op'
      cases op' <;> simp [eqGuard]
    unfold execOp
    cases neg <;> simp only [Bool.false_eq_true, if_false, if_true] at hop <;> subst hop
    · have hcy : a.eval (.const (.slice none 0 0)) = .slice none 0 0 := rfl
      simp [ho, hx, hcy, hgd, binOp, Op.equal, Op.maxDepth, heq]
    · have hcy : a.eval (.const (.slice none 0 0)) = .slice none 0 0 := rfl
      simp [ho, hx, hcy, hgd, binOp, Op.equal, Op.maxDepth, heq]
  simp only [aop] at hv
  split at hv
  · rename_i id off len cap e1
    rw [e1] at hx
    simp only [Rep] at hx
    refine wp_value (run _ _ _ hx.1) ⟨_, g, hv, hR.putO hd ?_ (fun _ => trivial)⟩
    rw [Rep.lit_iff]; simp
  · rename_i c e1
    rw [e1] at hx
    simp only [Rep] at hx
    obtain ⟨base, len, cap, hp, _⟩ := hx
    exact wp_value (run _ _ _ hp) ⟨_, g, hv _, hR.putO hd (Rep.lit_iff.2 rfl) (fun _ => trivial)⟩
  · rename_i c e0 es e1
    rw [e1] at hx
    simp only [Rep] at hx
    obtain ⟨base, len, cap, hp, hlen, hle, _, hnil, _⟩ := hx
    have hb : base.isNone = false := by
      cases base with
      | none => have := hnil rfl; simp at hlen; omega
      | some a => rfl
    refine wp_value (run _ _ _ hp) ⟨_, g, hv, hR.putO hd ?_ (fun _ => trivial)⟩
    rw [Rep.lit_iff, hb]; simp
  · exact hv.elim

theorem op_appendZ {t tx e ty : TypeId} {q : IntKind} {inf : TypeInfo} {z : Value} {s x : Operand} {args : Array Operand} {argTypes : Array TypeId} (ho : o.op = .call { callee := .builtin .append, args, argTypes })
    (ha0 : args = #[s, x]) (ht0 : argTypes = #[t, tx])
    (ht : E.P.underlying t = some (.slice e)) (htx : E.P.underlying tx = some (.int q)) (hi : E.P.info? e = some inf) (hz : inf.zero = some z)
    (hd : DstOk B.nt o.dst) (hR : RA E B σ a w g) (hv : aop E σ o.dst K Q (.appendZ inf.size inf.bytes (z.cells.toList.map ofCell) s x)) : o.wp E.P a w (KC E B K) (QC E B Q) := by
  have hexec : ∀ (r : Value) (w' : World), (Builtin.append_ #[t, tx] o.type #[a.eval s, a.eval x]).run E.P w = .ok r w' → (execOp a.eval o).run E.P w = .ok (.value r) w' := by
    intro r w' hh
    unfold execOp
    simp [ho, ha0, ht0, resolve, invoke, builtin, hh]
  have hrs := ASt.ev_rep hR s
  have hrx := ASt.ev_rep hR x
  simp only [aop] at hv
  split at hv
  · rename_i kq m e1 e2
    rw [e1] at hrs
    rw [e2, Rep.lit_iff] at hrx
    simp only [Rep] at hrs
    obtain ⟨base, len, cap, hval, hel, hle, hfull, hnil, _⟩ := hrs
    obtain ⟨⟨h0, hk, hzl, hb1, hb2⟩, hv0, hv1⟩ := hv
    have hzs : z.cells.size = inf.size := by simpa using hzl
    have hl0 : len = 0 := by simpa using hel.symm
    have hc0 : cap = 0 := by have := hfull trivial; omega
    subst hl0 hc0
    have hwm : IntKind.i64.wrap m = m := by simp [IntKind.wrap, IntKind.signed, IntKind.bits]; omega
    have hmb : ¬ ((2 : Int) ^ 48 < m * (inf.bytes : Int)) := by
      have h1 : m * (inf.bytes : Int) ≤ (2 * m + 192) * (inf.bytes : Int) := Int.mul_le_mul_of_nonneg_right (by omega) (by omega)
      omega
    have hmb' : ¬ ((281474976710656 : Int) < m * (inf.bytes : Int)) := by simpa using hmb
    have hm0 : ¬ (m < 0) := by omega
    by_cases hmz : m = 0
    · subst hmz
      refine wp_value (v := a.eval s) (w' := w) (hexec _ _ ?_) ⟨_, g, hv0 rfl, hR.putO hd (by rw [← e1]; exact ASt.ev_rep hR s) (fun _ => trivial)⟩
      rw [hval, hrx]
      cases base with
      | none => simp [Builtin.append_, run_und ht, run_und htx, run_siz hi, run_inf hi, asInt, asIntOf, hwm]
      | some ad => simp [Builtin.append_, run_und ht, run_und htx, run_siz hi, run_inf hi, asInt, asIntOf, hwm, storeCells]
    · have hpos : 0 < m := by omega
      have hv2 := hv1 hpos
      clear hv0 hv1
      obtain ⟨n, rfl⟩ : ∃ n : Nat, m = n := ⟨m.toNat, by omega⟩
      simp only [Int.toNat_natCast] at hv2
      let newCap := (Question.appendCap n 0 e).cut (w.tape w.drawn (.appendCap n 0 e))
      have hnc : n ≤ newCap := by simp only [newCap, Question.cut]; omega
      have hch : (choose (.appendCap n 0 e)).run E.P w = .ok newCap w.drew := by
        rw [run_choose]; rfl
      have hns : ¬ Builtin.nextslicecap n 0 * inf.bytes > 2 ^ 48 := by
        have h6 := nextslicecap_le (need := n) (cap := 0) (by omega)
        have h7 := Nat.mul_le_mul_right inf.bytes h6
        have h8 : (((2 * n + 192) * inf.bytes : Nat) : Int) = (2 * (n : Int) + 192) * (inf.bytes : Int) := by
          rw [Int.natCast_mul]; congr 1
        omega
      have hns' : ¬ 281474976710656 < Builtin.nextslicecap n 0 * inf.bytes := by simpa using hns
      have hmx : ¬ ((9223372036854775807 : Int) < (n : Int)) := by omega
      have hmx2 : IntKind.i64.max = 9223372036854775807 := rfl
      have hne : ¬ (n = 0) := by omega
      have hle0 : ¬ (n ≤ 0) := by omega
      have hsz : ¬ (inf.size = 0) := by omega
      obtain ⟨g2, h2, hloc⟩ := hR.newPushed (w' := w.drew.alloc (.cells ((Builtin.zeroCells z.cells n).toList ++ (Builtin.zeroCells z.cells (newCap - n)).toList).toArray e)) (e := e)
        (vs := ((Builtin.zeroCells z.cells n).toList ++ (Builtin.zeroCells z.cells (newCap - n)).toList).toArray)
        (l := zerosL n (z.cells.toList.map ofCell) ++ zerosL (newCap - n) (z.cells.toList.map ofCell)) ⟨rfl, rfl, rfl, rfl⟩
        (by simpa using Reps.append (zerosL_reps z.cells _) (zerosL_reps z.cells _)) (by
          intro av hav
          rcases List.mem_append.1 hav with hav | hav <;> exact zerosL_noOwn _ _ av hav)
      refine wp_value (v := .slice (some ⟨w.heap.size, 0, none⟩) n newCap) (w' := w.drew.alloc (.cells ((Builtin.zeroCells z.cells n).toList ++ (Builtin.zeroCells z.cells (newCap - n)).toList).toArray e)) (hexec _ _ ?_) ⟨_, g2, hv2 newCap hnc, h2.putO hd ?_ (fun _ => trivial)⟩
      · rw [hval, hrx]
        have hfc : (Builtin.firstCells inf.size 0 (.slice base 0 0)).run E.P w.drew = .ok #[] w.drew := by
          cases base <;> simp [Builtin.firstCells, loadCells, loadCellsFrom]
        simp [Builtin.append_, run_und ht, run_und htx, run_siz hi, run_inf hi, asInt, asIntOf, hwm, hm0, hmb', hne, hle0, hsz, hmx, hns', hch, zeroValue, hz, newRow, hmx2, Question.forced, hfc]
        have hnn : ¬ (n * inf.size = 0) := by
          intro h; rcases Nat.mul_eq_zero.1 h with h | h <;> omega
        rw [if_neg hnn]
        have hap : ((Builtin.zeroCells z.cells n).toList ++ (Builtin.zeroCells z.cells (newCap - n)).toList).toArray = Builtin.zeroCells z.cells n ++ Builtin.zeroCells z.cells (newCap - n) := by
          apply Array.ext'
          simp
        rw [hap]
      · simp only [Rep, hloc]
        exact ⟨trivial, by simp, hnc⟩
  · exact hv.elim
end Go.Abs

namespace Go.Abs
open Go Go.RowKit

structure AOper where
  dst : Option Nat
  op : AOp
  guard : Option (Nat × Bool)

inductive ACode where
  | skip
  | region (ops : List AOper)
  | draw (ops : List AOper)
  | eff (ops : List AOper) (fl : List Bool)
  | seq (a b : ACode)
  | cond (c : Operand) (x y : ACode)
  | block (id : Nat) (c : ACode)
  | loop (c : ACode)
  | exit (id : Nat)
  | ret

abbrev Hints := List (Nat × Nat)

def bufElem (P : Program) : Nat → TypeId → Option TypeId
  | 0, _ => none
  | f + 1, t => match P.underlying t with
    | some (.struct fs) => (match fs[0]?, fs[1]? with
      | some f0, some f1 => (match P.underlying f0.type, P.underlying f1.type with
        | some (.pointer _), some (.slice e) => some e
        | _, _ => bufElem P f f0.type)
      | some f0, none => bufElem P f f0.type
      | _, _ => none)
    | _ => none

def copT (P : Program) (tk : Bool) (op : Op) : Option AOp :=
  if tk then
    match op with
    | .move (.tmp t) | .assign (.tmp t) => some (.take t)
    | .buildSlice t len parts => (match cop P (.buildSlice t len parts) with | some (.buildSlice _ k z l p) => some (.buildSlice true k z l p) | _ => none)
    | .build t parts => if parts = #[] then (match cop P (.build t #[]), P.info? t with
      | some _, some it => (match it.zero with | some z => some (.build (z.cells.toList.map AV.lit) []) | none => none)
      | _, _ => none) else none
    | .box t x => (match bufElem P 4 t with | some te => some (.boxB t te x) | none => none)
    | .call { callee := .builtin .append, args, argTypes } => (match cop P (.call { callee := .builtin .append, args, argTypes }) with | some (.append k b z s x) => some (.appendO k b z s x) | _ => none)
    | _ => none
  else cop P op

def dstOk (nt : Nat) : Option Nat → Bool
  | some i => decide (i < nt)
  | none => true

def guardOf (ops : Array Oper) : Option (Nat × Bool) → Option (Option (Nat × Bool))
  | none => some none
  | some (j, want) => match (ops[j]?).bind (·.dst) with
    | some t => some (some (t, want))
    | none => none

def compOps (P : Program) (nt : Nat) (hs : Hints) (id : Nat) (ops : Array Oper) : List (Nat) → Option (List AOper)
  | [] => some []
  | i :: l => match ops[i]? with
    | none => none
    | some o => match copT P (hs.contains (id, i)) o.op, guardOf ops o.guard, compOps P nt hs id ops l with
      | some ao, some gd, some rest => if dstOk nt o.dst then some (⟨o.dst, ao, gd⟩ :: rest) else none
      | _, _, _ => none

def orderOk (ops : Array Oper) : Bool :=
  Region.noSelect ops && (List.range ops.size).all fun j => match ops[j]? with
    | none => true
    | some oj => (oj.after.all fun e => !Region.binds .any e || decide (e.on < j)) &&
        (List.range j).all fun i => match ops[i]? with
          | none => true
          | some oi => oj.after.any (fun e => Region.binds .any e && e.on == i) || oi.apart ops oj

def reach (ops : Array Oper) : Nat → Nat → Nat → Bool
  | 0, _, _ => false
  | f + 1, i, j => match ops[i]? with
    | none => false
    | some o => o.after.any fun e => Region.binds .any e && (e.on == j || reach ops f e.on j)

def noCall (ts : List AOper) : Bool := ts.all fun o => match o.op with | .call _ _ | .panic _ => false | _ => true

def compMix (P : Program) (nt : Nat) (hs : Hints) (id : Nat) (ops : Array Oper) (p n : Nat) : Option ACode :=
  if n ≤ ops.size ∧ p ≤ n ∧ (List.range ops.size).all (fun i => decide (i < n) || (List.range i).all (reach ops ops.size i)) = true then
    match compOps P nt [] id ops (List.range n), compOps P nt hs id ops ((List.range ops.size).drop n) with
    | some as, some ts => if ts.all (fun o => o.guard.isNone) then
        (match p with
        | 0 => some (.seq (.draw as) (.region ts))
        | 1 => (match ops[0]?, as with
          | some o, _ :: mid => (match o.dst, o.op with
            | some d, .move (.tmp t) | some d, .assign (.tmp t) => if t ≠ d ∧ o.guard = none ∧ noCall ts = true then some (.seq (.region [⟨some d, .take t, none⟩]) (.seq (.draw mid) (.region ts))) else none
            | _, _ => none)
          | _, _ => none)
        | _ => none)
      else none
    | _, _ => none
  else none

def effFl (hs : Hints) (id n : Nat) : List Bool := (List.range n).map fun i => hs.contains (id, i) || hs.contains (id, 500 + i)
def effChain (ops : Array Oper) (fl : List Bool) : Bool := (List.range fl.length).all fun j => !fl.getD j false || (List.range j).all fun i => !fl.getD i false || reach ops ops.size j i
def effFree (ops : Array Oper) (fl : List Bool) : Bool := (List.range fl.length).all fun j => fl.getD j false || (List.range fl.length).all fun i => !fl.getD i false || (match ops[i]?, ops[j]? with
  | some oi, some oj => (match oi.dst with | some d => !(oj.looksAt ops).contains d | none => true)
  | _, _ => true)
def compEff (P : Program) (nt : Nat) (hs : Hints) (id : Nat) (ops : Array Oper) (n : Nat) : Option ACode :=
  if n ≤ ops.size ∧ (List.range ops.size).all (fun i => decide (i < n) || (List.range i).all (reach ops ops.size i)) = true ∧ effChain ops (effFl hs id n) = true ∧ effFree ops (effFl hs id n) = true then
    match compOps P nt hs id ops (List.range n), compOps P nt hs id ops ((List.range ops.size).drop n) with
    | some as, some ts => if ts.all (fun o => o.guard.isNone) then some (.seq (.eff as (effFl hs id n)) (.region ts)) else none
    | _, _ => none
  else none
def hasEff (hs : Hints) (id : Nat) : Bool := hs.any fun x => x.1 == id && decide (500 ≤ x.2 ∧ x.2 < 600)

def mixOf (hs : Hints) (id : Nat) : Option (Nat × Nat) := (hs.find? fun x => x.1 == id && decide (1000 ≤ x.2)).map fun x => ((x.2 - 1000) % 2, (x.2 - 1000) / 2)

def comp (P : Program) (nt : Nat) (hs : Hints) : Code → Option ACode
  | .skip => some .skip
  | .label _ => some .skip
  | .region id ops false => (compOps P nt hs id ops (List.range ops.size)).map .region
  | .region id ops true => if P.follows .mixedOrders && orderOk ops then (match mixOf hs id with | some (p, n) => if hasEff hs id then compEff P nt hs id ops n else compMix P nt hs id ops p n | none => (compOps P nt [] id ops (List.range ops.size)).map .draw) else none
  | .seq a b => match comp P nt hs a, comp P nt hs b with | some x, some y => some (.seq x y) | _, _ => none
  | .cond c a b => match comp P nt hs a, comp P nt hs b with | some x, some y => some (.cond c x y) | _, _ => none
  | .block id c => (comp P nt hs c).map (.block id)
  | .loop c => (comp P nt hs c).map .loop
  | .exit id => some (.exit id)
  | .ret => some .ret
  | _ => none

inductive GuardIs where
  | yes (b : Bool) | never | unknown

def guardIs : AV → GuardIs
  | .lit (.bool b) => .yes b
  | .lit (.tuple _) => .never
  | _ => .unknown

def Br (b : Bool) (A B : Prop) : Prop := (b = true → A) ∧ (b = false → B)

def aops (E : Env) (K : ASt → Prop) (Q : AEx → ASt → Prop) : List AOper → ASt → Prop
  | [], σ => K σ
  | o :: rest, σ => match o.guard with
    | none => aop E σ o.dst (fun σ' => aops E K Q rest σ') Q o.op
    | some (t, want) => match guardIs (look σ.tmps t) with
      | .yes b => Br (b == want) (aop E σ o.dst (fun σ' => aops E K Q rest σ') Q o.op) (aops E K Q rest (σ.putO o.dst (.lit undef)))
      | .never => aops E K Q rest (σ.putO o.dst (.lit undef))
      | .unknown => False

def adop (E : Env) (h : List AObj) (ev : Operand → AV) (ao : AOp) (K : AV → Prop) : Prop :=
  match ao with
  | .buildSlice false k zero len parts =>
    (parts.map (·.1) = List.range len ∧ len * k ≤ 2 ^ 24 ∧ 0 < k ∧ zero.length = k ∧ (∀ p, p ∈ parts → (ev p.2).sure = true ∧ (ev p.2).cells.length = k ∧ (ev p.2).cells.all AV.one = true)) ∧
    K (.sl .full (parts.map fun (p : Nat × Operand) => ev p.2))
  | .toBytes x => (match ev x with | .lit (.string s) => K (.sl .unk (s.data.toList.map fun b => .lit (.int .u8 b.toNat))) | _ => False)
  | .call f args => (match ev f with
    | .fn (.func fid) first caps => ∃ v, EvR E fid (first.map AV.strip ++ args.map (fun x => ev x.1) ++ caps.map AV.strip) h v ∧ K v.strip
    | _ => False)
  | ao => vop h ev ao K

def adraw (E : Env) (K : ASt → Prop) : List AOper → ASt → Prop
  | [], σ => K σ
  | o :: rest, σ => match o.guard with
    | none => adop E σ.heap (σ.ev E) o.op fun v => adraw E K rest (σ.putO o.dst v)
    | some (t, want) => match guardIs (look σ.tmps t) with
      | .yes b => Br (b == want) (adop E σ.heap (σ.ev E) o.op fun v => adraw E K rest (σ.putO o.dst v)) (adraw E K rest (σ.putO o.dst (.lit undef)))
      | .never => adraw E K rest (σ.putO o.dst (.lit undef))
      | .unknown => False

def pre (σ : ASt) : List AOper → List AV → Nat → ASt
  | _, _, 0 => σ
  | [], _, _ => σ
  | _, [], _ => σ
  | o :: as, v :: vs, i + 1 => pre (σ.putO o.dst v) as vs i

def eop (E : Env) (h : List AObj) (ev : Operand → AV) (ao : AOp) (K : List AObj → AV → Prop) : Prop :=
  match ao with
  | .call f args => (match ev f with
    | .fn (.func fid) first caps => Ev E fid (first.map AV.strip ++ args.map (fun x => ev x.1) ++ caps.map AV.strip) h (fun r h' => match r with | .ret v => K h' v.strip | .panic _ => False)
    | _ => False)
  | .appendO k bytes zero s x => (match ev s, argElems (ev x) with
    | .vw id off len cap, some xs => (match h[id]? with
      | some (.cells l) => (0 < k ∧ zero.length = k ∧ Fit k xs ∧ allOne xs ∧ off + len * k ≤ l.length ∧ (2 * (len + xs.length) + 192) * bytes ≤ 2 ^ 48 ∧ len + xs.length < 2 ^ 62) ∧
          (len + xs.length ≤ cap → off + (len + xs.length) * k ≤ l.length ∧ K (h.set id (AObj.cells (setMany l (off + len * k) ((flatC xs).map AV.strip)))) (.vw id off (len + xs.length) cap)) ∧
          (cap < len + xs.length → ∀ cap', len + xs.length ≤ cap' →
            K (h ++ [AObj.cells (((l.drop off).take (len * k)).map AV.strip ++ (flatC xs).map AV.strip ++ zerosL (cap' - (len + xs.length)) zero)]) (.vw h.length 0 (len + xs.length) cap'))
      | _ => False)
    | .sl .full es, some xs => (0 < k ∧ zero.length = k ∧ Fit k es ∧ Fit k xs ∧ allOne xs ∧ (2 * (es.length + xs.length) + 192) * bytes ≤ 2 ^ 48 ∧ es.length + xs.length < 2 ^ 62) ∧
        (xs = [] → es = [] ∧ K h (.sl .full [])) ∧
        (xs ≠ [] → ∀ cap', es.length + xs.length ≤ cap' →
          K (h ++ [AObj.cells ((flatC es).map AV.strip ++ (flatC xs).map AV.strip ++ zerosL (cap' - (es.length + xs.length)) zero)]) (.vw h.length 0 (es.length + xs.length) cap'))
    | _, _ => False)
  | _ => False

def aflt (E : Env) : List AOper → List Bool → ASt → (List AV → Prop) → Prop
  | [], [], _, K => K []
  | o :: as, true :: fl, σ, K => aflt E as fl (σ.putO o.dst .any) (fun vs => K (.any :: vs))
  | o :: as, false :: fl, σ, K => (match o.guard with
    | none => adop E σ.heap (σ.ev E) o.op fun v => aflt E as fl (σ.putO o.dst v) (fun vs => K (v :: vs))
    | some (t, want) => match guardIs (look σ.tmps t) with
      | .yes b => Br (b == want) (adop E σ.heap (σ.ev E) o.op fun v => aflt E as fl (σ.putO o.dst v) (fun vs => K (v :: vs))) (aflt E as fl (σ.putO o.dst (.lit undef)) (fun vs => K (.lit undef :: vs)))
      | .never => aflt E as fl (σ.putO o.dst (.lit undef)) (fun vs => K (.lit undef :: vs))
      | .unknown => False)
  | _, _, _, _ => False

def effIdx : List Bool → Nat → List Nat
  | [], _ => []
  | true :: fl, i => i :: effIdx fl (i + 1)
  | false :: fl, i => effIdx fl (i + 1)

def ach (E : Env) (σ : ASt) (as : List AOper) (fl : List Bool) (v0 : List AV) (K : ASt → Prop) : List Nat → List AV → List AObj → Prop
  | [], vs, h => K (pre { σ with heap := h } as vs as.length)
  | e :: es, vs, h => (match as[e]? with
    | some o => o.guard = none ∧ eop E h ((pre { σ with heap := h } as vs e).ev E) o.op (fun h' v => aflt E as fl { σ with heap := h' } (fun vs' => vs' = v0) ∧ ach E σ as fl v0 K es (vs.set e v) h')
    | none => False)
def aeff (E : Env) (as : List AOper) (fl : List Bool) (σ : ASt) (K : ASt → Prop) : Prop := aflt E as fl σ (fun v0 => ach E σ as fl v0 K (effIdx fl 0) v0 σ.heap)

def Weak (σ σ' : ASt) : Prop := σ'.heap = σ.heap ∧ ∀ i, look σ'.tmps i = look σ.tmps i ∨ look σ'.tmps i = .any

def thenQ (K : ASt → Prop) (Q : AEx → ASt → Prop) : AEx → ASt → Prop
  | .normal, σ => K σ
  | .exit id, σ => Q (.exit id) σ
  | .ret, σ => Q .ret σ
  | .panic v, σ => Q (.panic v) σ

def blockQ (id : Nat) (Q : AEx → ASt → Prop) : AEx → ASt → Prop
  | .normal, σ => Q .normal σ
  | .exit id', σ => if id' = id then Q .normal σ else Q (.exit id') σ
  | .ret, σ => Q .ret σ
  | .panic v, σ => Q (.panic v) σ

def awp (E : Env) : ACode → (AEx → ASt → Prop) → ASt → Prop
  | .skip, Q, σ => Q .normal σ
  | .region ops, Q, σ => aops E (Q .normal) Q ops σ
  | .draw ops, Q, σ => adraw E (Q .normal) ops σ
  | .eff as fl, Q, σ => aeff E as fl σ (Q .normal)
  | .seq x y, Q, σ => awp E x (thenQ (awp E y Q) Q) σ
  | .cond c x y, Q, σ => (match σ.ev E c with
    | .lit (.bool b) => Br b (awp E x Q σ) (awp E y Q σ)
    | _ => False)
  | .block id c, Q, σ => awp E c (blockQ id Q) σ
  | .loop c, Q, σ => ∃ (I : Nat → ASt → Prop), (∃ n σ0, Weak σ σ0 ∧ I n σ0) ∧
      ∀ n σ', I n σ' → awp E c (thenQ (fun σ'' => ∃ m σ0, m < n ∧ Weak σ'' σ0 ∧ I m σ0) Q) σ'
  | .exit id, Q, σ => Q (.exit id) σ
  | .ret, Q, σ => Q .ret σ

theorem Weak.ra {E B σ σ' a w g} (hw : Weak σ σ') (h : RA E B σ a w g) : RA E B σ' a w g where
  nt := h.nt
  gok := h.gok
  gl := h.gl
  heap := by rw [hw.1]; exact h.heap
  st := h.st
  n0 := by rw [hw.1]; exact h.n0
  defers := h.defers
  tmps := fun i => by
    rw [hw.1]
    rcases hw.2 i with hi | hi
    · rw [hi]; exact h.tmps i
    · rw [hi]; exact ⟨by simp [Rep], trivial⟩

variable {E : Env} {B : Base} {σ : ASt} {a : Act} {w : World} {g : Gh} {K : ASt → Prop} {Q : AEx → ASt → Prop}

theorem op_sound {o : Oper} {ao : AOp} {tk : Bool} (hc : copT E.P tk o.op = some ao) (hd : DstOk B.nt o.dst) (hR : RA E B σ a w g) (hv : aop E σ o.dst K Q ao) :
    o.wp E.P a w (KC E B K) (QC E B Q) := by
  obtain ⟨dst, op, type, pos, after, guard⟩ := o
  unfold copT at hc
  cases tk with
  | true =>
    simp only [if_true] at hc
    split at hc
    · cases hc; exact op_take (.inl rfl) hd hR hv
    · cases hc; exact op_take (.inr rfl) hd hR hv
    · split at hc
      · rename_i heq
        cases hc
        simp only [cop] at heq
        split at heq
        · rename_i hu
          split at heq
          · rename_i hi
            split at heq
            · rename_i hz; cases heq; exact op_buildSlice rfl hu hi hz hd hR hv
            · cases heq
          · cases heq
        · cases heq
      · cases hc
    · rename_i t parts
      split at hc
      · rename_i hp
        subst hp
        split at hc
        · rename_i ao' it hcop hi
          split at hc
          · rename_i z hz
            cases hc
            simp only [aop, vop, fillA] at hv
            have hb : E.P.built t [] = some z.cells := by
              simp only [cop] at hcop
              split at hcop
              · rename_i it' n e hi' hu
                rw [hi] at hi'; cases hi'
                split at hcop
                · rename_i z' ie hz' hie
                  rw [hz] at hz'; cases hz'
                  simp only [Program.built, hi, hu, hz, hie]; rfl
                · cases hcop
              · rename_i it' fields hi' hu
                rw [hi] at hi'; cases hi'
                split at hcop
                · rename_i z' places hz' hp
                  rw [hz] at hz'; cases hz'
                  simp only [Program.built, hi, hu, hz, hp]; rfl
                · cases hcop
              · cases hcop
            refine wp_value (v := .agg z.cells) (w' := w) ?_ ⟨_, g, hv, hR.putO hd ?_ (fun _ => (NoOwn.agg _).spare)⟩
            · unfold execOp
              have := run_build w t #[] z.cells hb
              simp [this]
            · simp only [Rep]
              exact ⟨_, rfl, Reps.lits _⟩
          · cases hc
        · cases hc
      · cases hc
    · split at hc
      · cases hc; exact op_boxB rfl hd hR hv
      · cases hc
    · rename_i args argTypes
      split at hc
      · rename_i heq
        cases hc
        simp only [cop] at heq
        split at heq
        · rename_i s x t tx hs ht
          split at heq
          · rename_i e hu
            split at heq
            · rename_i hi hd2
              split at heq
              · rename_i hz; cases heq; exact op_appendO (ty := 0) rfl (Array.ext' (by simpa using hs)) (Array.ext' (by simpa using ht)) hu hd2 (by simp) hi hz hd hR hv
              · cases heq
            · rename_i hi hd2
              split at heq
              · rename_i hz; cases heq; exact op_appendO (ty := 0) rfl (Array.ext' (by simpa using hs)) (Array.ext' (by simpa using ht)) hu hd2 (by simp) hi hz hd hR hv
              · cases heq
            · split at heq <;> cases heq
            · cases heq
          · cases heq
        · cases heq
      · cases hc
    · cases hc
  | false =>
    simp only [Bool.false_eq_true, if_false] at hc
    by_cases hV : isV ao = true
    · refine op_vop hc hV hd hR ?_
      cases ao <;> first | exact hv | (simp [isV] at hV; done)
    · cases op with
      | convert src dst x =>
        simp only [cop] at hc
        split at hc
        · cases hc; exact absurd rfl hV
        · cases hc; exact absurd rfl hV
        · split at hc <;> cases hc; exact absurd rfl hV
        · rename_i h1 h2
          split at hc
          · rename_i h3; cases hc; exact op_toBytes rfl h1 h2 h3 hd hR hv
          · cases hc
        · rename_i h1 h2
          split at hc
          · rename_i h3
            split at hc
            · rename_i h4; cases hc; exact op_conv8 rfl h4 h1 h2 h3 hd hR hv
            · cases hc
          · cases hc
        · cases hc
      | box t x => simp only [cop] at hc; cases hc; exact op_box rfl hd hR hv
      | alloc t =>
        simp only [cop] at hc
        split at hc
        · rename_i hi
          split at hc
          · rename_i hz; cases hc; exact op_alloc rfl hi hz hd hR hv
          · cases hc
        · cases hc
      | store t x y =>
        simp only [cop] at hc
        split at hc
        · rename_i hi; cases hc; exact op_store rfl hi hd hR hv
        · cases hc
      | panic x => simp only [cop] at hc; cases hc; exact op_panic rfl hR hv
      | makeMap t r =>
        cases r with
        | some _ => simp [cop] at hc
        | none =>
          simp only [cop] at hc
          split at hc
          · split at hc
            · cases hc; exact op_makeMap rfl hd hR hv
            · cases hc
          · cases hc
      | lookup t x i ok =>
        simp only [cop] at hc
        split at hc
        · split at hc
          · split at hc <;> cases hc; exact absurd rfl hV
          · cases hc
        · cases hc
      | mapUpdate t m k x =>
        simp only [cop] at hc
        split at hc
        · rename_i hu
          split at hc
          · rename_i hk; cases hc; exact op_mapSet (.inl rfl) hu hk hd hR hv
          · cases hc
        · cases hc
      | insert t m k x =>
        simp only [cop] at hc
        split at hc
        · rename_i hu
          split at hc
          · rename_i hk; cases hc; exact op_mapSet (.inr rfl) hu hk hd hR hv
          · cases hc
        · cases hc
      | buildSlice t len parts =>
        simp only [cop] at hc
        split at hc
        · rename_i hu
          split at hc
          · rename_i hi
            split at hc
            · rename_i hz; cases hc; exact op_buildSlice rfl hu hi hz hd hR hv
            · cases hc
          · cases hc
        · cases hc
      | makeSlice t l c =>
        simp only [cop] at hc
        split at hc
        · rename_i hu
          split at hc
          · rename_i hi
            split at hc
            · rename_i hz; cases hc; exact op_makeSlice rfl hu hi hz hd hR hv
            · cases hc
          · cases hc
        · cases hc
      | typeAssert x xt t ok =>
        simp only [cop] at hc
        split at hc
        · cases hc
        · split at hc <;> cases hc; exact absurd rfl hV
        · cases hc
      | call c =>
        obtain ⟨callee, args, argTypes⟩ := c
        cases callee with
        | value f => simp only [cop] at hc; cases hc; exact op_call rfl hd hR hv
        | invoke r m => simp [cop] at hc
        | builtin b =>
          cases b <;> try (simp [cop] at hc; done)
          case len =>
            simp only [cop] at hc
            split at hc
            · split at hc <;> cases hc <;> exact absurd rfl hV
            · cases hc
          case cap =>
            simp only [cop] at hc
            split at hc
            · split at hc <;> cases hc; exact absurd rfl hV
            · cases hc
          case clear =>
            simp only [cop] at hc
            split at hc
            · rename_i hx ht
              split at hc
              · rename_i hu
                split at hc
                · rename_i hi
                  split at hc
                  · rename_i hz; cases hc; exact op_clearS rfl hx ht hu hi hz hd hR hv
                  · cases hc
                · cases hc
              · cases hc
            · cases hc
          case max => simp only [cop] at hc; split at hc <;> cases hc; exact absurd rfl hV
          case min => simp only [cop] at hc; split at hc <;> cases hc; exact absurd rfl hV
          case append =>
            simp only [cop] at hc
            split at hc
            · rename_i s x t tx hs ht
              split at hc
              · rename_i e hu
                have fin : ∀ (inf : TypeInfo) (z : Value) (d : TypeDesc), E.P.info? e = some inf → E.P.underlying tx = some d → (∀ k, d ≠ .int k) → inf.zero = some z → ao = .append inf.size inf.bytes (z.cells.toList.map ofCell) s x →
                    Oper.wp E.P { dst := dst, op := .call { callee := .builtin .append, args := args, argTypes := argTypes }, type := type, pos := pos, after := after, guard := guard } a w (KC E B K) (QC E B Q) := by
                  intro inf z d hi hd2 hne hz hao
                  subst hao
                  exact op_append (ty := 0) rfl (Array.ext' (by simpa using hs)) (Array.ext' (by simpa using ht)) hu hd2 hne hi hz hd hR hv
                split at hc
                · rename_i hi hd2
                  split at hc
                  · rename_i hz; cases hc; exact fin _ _ _ hi hd2 (by simp) hz rfl
                  · cases hc
                · rename_i hi hd2
                  split at hc
                  · rename_i hz; cases hc; exact fin _ _ _ hi hd2 (by simp) hz rfl
                  · cases hc
                · rename_i hi hd2
                  split at hc
                  · rename_i hz; cases hc; exact op_appendZ (ty := 0) rfl (Array.ext' (by simpa using hs)) (Array.ext' (by simpa using ht)) hu hd2 hi hz hd hR hv
                  · cases hc
                · cases hc
              · cases hc
            · cases hc
      | binOp op t x y ty =>
        simp only [cop] at hc
        split at hc
        · rename_i hsl
          obtain ⟨e, hu⟩ : ∃ e, E.P.underlying t = some (.slice e) := by
            unfold isSliceT at hsl
            split at hsl
            · exact ⟨_, by assumption⟩
            · cases hsl
          split at hc
          · cases hc; exact op_eqNil (neg := false) rfl rfl hu hd hR hv
          · cases hc; exact op_eqNil (neg := true) rfl rfl hu hd hR hv
          · cases hc
        split at hc
        · cases op <;> simp at hc <;> subst hc <;> exact absurd rfl hV
        · split at hc
          · cases hc; exact absurd rfl hV
          · split at hc
            · cases op <;> simp at hc <;> subst hc <;> exact absurd rfl hV
            · split at hc
              · cases op <;> simp at hc <;> subst hc <;> exact absurd rfl hV
              · cases hc
      | slice t x lo hi mx =>
        cases mx with
        | some _ =>
          simp only [cop] at hc
          split at hc
          · split at hc <;> cases hc; exact absurd rfl hV
          · cases hc
        | none =>
          simp only [cop] at hc
          split at hc
          · cases hc; exact absurd rfl hV
          · split at hc <;> cases hc; exact absurd rfl hV
          · cases hc
      | fieldAddr s x f =>
        simp only [cop] at hc
        split at hc
        · split at hc
          · split at hc
            · split at hc <;> cases hc; exact absurd rfl hV
            · cases hc
          · cases hc
        · cases hc
      | field s x f =>
        simp only [cop] at hc
        split at hc
        · split at hc
          · split at hc <;> cases hc; exact absurd rfl hV
          · cases hc
        · cases hc
      | indexAddr t x i =>
        simp only [cop] at hc
        split at hc
        · split at hc <;> cases hc; exact absurd rfl hV
        · split at hc <;> cases hc; exact absurd rfl hV
        · cases hc
      | index t x i =>
        simp only [cop] at hc
        split at hc
        · cases hc; exact absurd rfl hV
        · split at hc <;> cases hc; exact absurd rfl hV
        · cases hc
      | load t x => simp only [cop] at hc; split at hc <;> cases hc; exact absurd rfl hV
      | makeInterface t x =>
        simp only [cop] at hc
        split at hc <;> cases hc; exact absurd rfl hV
      | build t parts =>
        simp only [cop] at hc
        split at hc
        · split at hc
          · split at hc <;> cases hc; exact absurd rfl hV
          · cases hc
        · split at hc
          · split at hc <;> cases hc; exact absurd rfl hV
          · cases hc
        · cases hc
      | move x => simp only [cop] at hc; cases hc; exact absurd rfl hV
      | assign x => simp only [cop] at hc; cases hc; exact absurd rfl hV
      | pick c a b => simp only [cop] at hc; cases hc; exact absurd rfl hV
      | nilCheck x => simp only [cop] at hc; cases hc; exact absurd rfl hV
      | unOp op t x => simp only [cop] at hc; cases hc; exact absurd rfl hV
      | extract x i => simp only [cop] at hc; cases hc; exact absurd rfl hV
      | makeFunc f first caps => simp only [cop] at hc; cases hc; exact absurd rfl hV
      | _ => simp [cop] at hc

theorem putO_undef {d : Option Nat} (hR : RA E B σ a w g) (hd : DstOk B.nt d) : RA E B (σ.putO d (.lit undef)) (a.put d undef) w g :=
  hR.putO hd (Rep.lit_iff.2 rfl) (fun _ => trivial)

theorem guard_wanted {ops : Array Oper} {o : Oper} {t : Nat} {want : Bool} (hg : guardOf ops o.guard = some (some (t, want))) (hR : RA E B σ a w g) :
    (∀ b, guardIs (look σ.tmps t) = .yes b → Region.wanted o (yielded ops a.tmps) = (b == want)) ∧
    (guardIs (look σ.tmps t) = .never → Region.wanted o (yielded ops a.tmps) = false) := by
  unfold guardOf at hg
  split at hg
  · cases hg
  · rename_i j want' hgd
    split at hg
    · rename_i t' ht
      cases hg
      have hr := (hR.tmps t).1
      have hy : yielded ops a.tmps j = match a.tmps[t]? with | some (.bool b) => some b | _ => none := by
        simp only [yielded, ht, Option.bind_some]
        cases a.tmps[t]? with
        | none => rfl
        | some v => cases v <;> rfl
      constructor
      · intro b hb
        unfold guardIs at hb
        split at hb <;> cases hb
        rename_i hl
        rw [hl, Rep.lit_iff] at hr
        have hs : a.tmps[t]? = some (.bool b) := by
          rw [Array.getD_eq_getD_getElem?] at hr
          cases h : a.tmps[t]? with
          | none => rw [h] at hr; cases hr
          | some v => rw [h] at hr; simpa using hr
        simp only [Region.wanted, hgd, hy, hs]
        cases b <;> cases want <;> rfl
      · intro hb
        unfold guardIs at hb
        split at hb <;> cases hb
        rename_i vs hl
        rw [hl, Rep.lit_iff] at hr
        simp only [Region.wanted, hgd, hy]
        rw [Array.getD_eq_getD_getElem?] at hr
        cases h : a.tmps[t]? with
        | none => rfl
        | some v => rw [h] at hr; simp at hr; rw [hr]; rfl
    · cases hg

theorem dstOk_spec {nt : Nat} {d : Option Nat} (h : dstOk nt d = true) : DstOk nt d := by
  intro i hi; subst hi; simpa [dstOk] using h

theorem aops_sound {ops : Array Oper} {hs : Hints} {id : Nat} : ∀ (l : List Nat) (as : List AOper) (σ : ASt) (a : Act) (w : World) (g : Gh), compOps E.P B.nt hs id ops l = some as →
    RA E B σ a w g → aops E (Q .normal) Q as σ → wpOps E.P ops (QC E B Q) l a w
  | [], as, σ, a, w, g, hc, hR, hv => by
    simp [compOps] at hc; subst hc
    exact ⟨.normal, σ, g, hv, rfl, hR⟩
  | i :: l, as, σ, a, w, g, hc, hR, hv => by
    unfold compOps at hc
    split at hc
    · cases hc
    · rename_i o ho
      split at hc
      · rename_i ao gd rest hao hgd hrest
        split at hc
        · rename_i hd
          cases hc
          have hd' := dstOk_spec hd
          have ih := fun σ a w g => aops_sound l rest σ a w g hrest
          have hop : ∀ (hv : aop E σ o.dst (fun σ' => aops E (Q .normal) Q rest σ') Q ao), o.wp E.P a w (wpOps E.P ops (QC E B Q) l) (QC E B Q) := fun hv =>
            Oper.wp_mono (fun a w ⟨σ', g', hk, hR'⟩ => ih σ' a w g' hR' hk) (op_sound hao hd' hR hv)
          simp only [wpOps, ho]
          simp only [aops] at hv
          cases gd with
          | none =>
            have hgn : o.guard = none := by
              unfold guardOf at hgd
              split at hgd
              · assumption
              · split at hgd <;> cases hgd
            rw [if_pos (by simp [Region.wanted, hgn])]
            exact .inl (hop hv)
          | some tw =>
            obtain ⟨t, want⟩ := tw
            obtain ⟨h1, h2⟩ := guard_wanted hgd hR
            simp only at hv
            split at hv
            · rename_i b hb
              rw [h1 b hb]
              by_cases hbw : (b == want) = true
              · rw [if_pos hbw]; exact .inl (hop (hv.1 hbw))
              · rw [if_neg hbw]
                exact ih _ _ _ _ (putO_undef hR hd') (hv.2 (by simpa using hbw))
            · rename_i hb
              rw [h2 hb, if_neg (by simp)]
              exact ih _ _ _ _ (putO_undef hR hd') hv
            · exact hv.elim
        · cases hc
      · cases hc

abbrev tq (n : Nat) : Operand := .tmp n
abbrev oq (d : Nat) (o : AOp) : AOper := ⟨some d, o, none⟩
abbrev oz (o : AOp) : AOper := ⟨none, o, none⟩
abbrev og (d : Nat) (o : AOp) (g : Nat) (b : Bool) : AOper := ⟨some d, o, some (g, b)⟩
abbrev ci (n : Int) : Operand := .const (.int .i64 n)
abbrev cb (b : Bool) : Operand := .const (.bool b)
abbrev zi : AV := .lit (.int .i64 0)
abbrev zs : AV := .lit (.string ⟨#[]⟩)
abbrev zb : AV := .lit (.bool false)
abbrev zn : AV := .sl .full []
abbrev qm (n : Nat) : AOp := .move (.tmp n)
abbrev ql (n : Nat) : AOp := .load none (.tmp n)
abbrev qs (k n : Nat) : AOp := .load (some k) (.tmp n)
abbrev qf (k n : Nat) : AOp := .fieldAddr k (.tmp n)
abbrev qn (n : Nat) : AOp := .len false (.tmp n)
abbrev qx (k a b : Nat) : AOp := .indexAddr k (.tmp a) (.tmp b)
end Go.Abs

namespace Go.Abs
open Go Go.RowKit

def AOp.ops : AOp → List Operand
  | .move x | .toBytes x | .nilCheck x | .un _ x | .conv _ x | .convS x | .toStr x | .fieldAddr _ x | .field _ _ x | .load _ x | .extract x _ | .len _ x | .mkIface _ x | .lenM x | .capS x | .typeAssert _ _ x _ => [x]
  | .pick c a b => [c, a, b]
  | .bin _ x y | .minmax _ x y | .eqB _ x y | .eqN _ _ x y | .eqS _ _ x y | .indexAddr _ x y | .indexAddrArr _ _ x y | .indexS x y | .indexArr _ _ _ x y | .lookup _ _ _ x y => [x, y]
  | .slice _ x lo hi | .sliceS x lo hi => x :: (lo.toList ++ hi.toList)
  | .slice3 _ x lo hi mx => x :: mx :: (lo.toList ++ hi.toList)
  | .mkFunc _ first caps => first ++ caps
  | .build _ parts => parts.map (·.2.2)
  | .buildSlice _ _ _ _ parts => parts.map (·.2)
  | .call f args => f :: args.map (·.1)
  | .append _ _ _ s x | .appendO _ _ _ s x => [s, x]
  | _ => []

variable {P : Program} {h : List AObj} {ev ev' : Operand → AV} {K : AV → Prop}

theorem fillA_congr : ∀ (parts : List (Nat × Nat × Operand)) (cs : List AV), (∀ p, p ∈ parts → ev p.2.2 = ev' p.2.2) → fillA ev cs parts = fillA ev' cs parts
  | [], _, _ => rfl
  | (off, n, x) :: parts, cs, hh => by
    have h1 := hh (off, n, x) (by simp)
    simp only at h1
    simp only [fillA, h1]
    split
    · exact fillA_congr parts _ (fun p hp => hh p (by simp [hp]))
    · rfl

theorem vop_congr (ao : AOp) (hh : ∀ x, x ∈ ao.ops → ev x = ev' x) : vop h ev ao K = vop h ev' ao K := by
  cases ao with
  | slice k x lo hi =>
    have h1 := hh x (by simp [AOp.ops])
    have hlo : ∀ y, lo = some y → ev y = ev' y := fun y hy => hh y (by simp [AOp.ops, hy])
    have hhi : ∀ y, hi = some y → ev y = ev' y := fun y hy => hh y (by simp [AOp.ops, hy])
    cases lo <;> cases hi <;> simp only [vop, h1]
    · simp only [hhi _ rfl]
    · simp only [hlo _ rfl]
    · simp only [hlo _ rfl, hhi _ rfl]
  | sliceS x lo hi =>
    have h1 := hh x (by simp [AOp.ops])
    have hlo : ∀ y, lo = some y → ev y = ev' y := fun y hy => hh y (by simp [AOp.ops, hy])
    have hhi : ∀ y, hi = some y → ev y = ev' y := fun y hy => hh y (by simp [AOp.ops, hy])
    cases lo <;> cases hi <;> simp only [vop, h1]
    · simp only [hhi _ rfl]
    · simp only [hlo _ rfl]
    · simp only [hlo _ rfl, hhi _ rfl]
  | slice3 k x lo hi mx =>
    have h1 := hh x (by simp [AOp.ops])
    have h2 := hh mx (by simp [AOp.ops])
    have hlo : ∀ y, lo = some y → ev y = ev' y := fun y hy => hh y (by simp [AOp.ops, hy])
    have hhi : ∀ y, hi = some y → ev y = ev' y := fun y hy => hh y (by simp [AOp.ops, hy])
    cases lo <;> cases hi <;> simp only [vop, h1, h2]
    · simp only [hhi _ rfl]
    · simp only [hlo _ rfl]
    · simp only [hlo _ rfl, hhi _ rfl]
  | mkFunc f first caps =>
    simp only [vop]
    rw [List.map_congr_left (fun x hx => hh x (by simp [AOp.ops, hx])), List.map_congr_left (fun x hx => hh x (by simp [AOp.ops, hx]))]
  | build zero parts =>
    simp only [vop]
    rw [fillA_congr parts zero (fun p hp => hh _ (by simp only [AOp.ops, List.mem_map]; exact ⟨p, hp, rfl⟩))]
  | len b x => cases b <;> simp only [vop, hh x (by simp [AOp.ops])]
  | un op x => simp only [vop, hh x (by simp [AOp.ops])]
  | pick c a b => simp only [vop, hh c (by simp [AOp.ops]), hh a (by simp [AOp.ops]), hh b (by simp [AOp.ops])]
  | minmax op x y => simp only [vop, hh x (by simp [AOp.ops]), hh y (by simp [AOp.ops])]
  | bin op x y => simp only [vop, hh x (by simp [AOp.ops]), hh y (by simp [AOp.ops])]
  | eqB op x y => simp only [vop, hh x (by simp [AOp.ops]), hh y (by simp [AOp.ops])]
  | eqN op k x y => simp only [vop, hh x (by simp [AOp.ops]), hh y (by simp [AOp.ops])]
  | eqS op k x y => simp only [vop, hh x (by simp [AOp.ops]), hh y (by simp [AOp.ops])]
  | indexAddr k x y => simp only [vop, hh x (by simp [AOp.ops]), hh y (by simp [AOp.ops])]
  | indexAddrArr l k x y => simp only [vop, hh x (by simp [AOp.ops]), hh y (by simp [AOp.ops])]
  | indexS x y => simp only [vop, hh x (by simp [AOp.ops]), hh y (by simp [AOp.ops])]
  | indexArr l k n x y => simp only [vop, hh x (by simp [AOp.ops]), hh y (by simp [AOp.ops])]
  | move x => simp only [vop, hh x (by simp [AOp.ops])]
  | nilCheck x => simp only [vop, hh x (by simp [AOp.ops])]
  | conv k x => simp only [vop, hh x (by simp [AOp.ops])]
  | convS x => simp only [vop, hh x (by simp [AOp.ops])]
  | toStr x => simp only [vop, hh x (by simp [AOp.ops])]
  | fieldAddr k x => simp only [vop, hh x (by simp [AOp.ops])]
  | field k n x => simp only [vop, hh x (by simp [AOp.ops])]
  | load n x => simp only [vop, hh x (by simp [AOp.ops])]
  | extract x i => simp only [vop, hh x (by simp [AOp.ops])]
  | mkIface t x => simp only [vop, hh x (by simp [AOp.ops])]
  | lenM x => simp only [vop, hh x (by simp [AOp.ops])]
  | capS x => simp only [vop, hh x (by simp [AOp.ops])]
  | typeAssert t z x ok => simp only [vop, hh x (by simp [AOp.ops])]
  | lookup ok kk z x y => simp only [vop, hh x (by simp [AOp.ops]), hh y (by simp [AOp.ops])]
  | _ => simp only [vop]

theorem binW_val {op : BinOp} {u v : Value} {K : Value → Prop} (hh : binW op u v K) : ∃ r, K r ∧ binW op u v (fun x => x = r) := by
  unfold binW at hh ⊢
  split at hh
  · cases op <;> simp only at hh ⊢
    all_goals first
      | exact ⟨_, hh.2.2, hh.1, hh.2.1, rfl⟩
      | exact ⟨_, hh.2, hh.1, rfl⟩
  · cases op <;> simp only at hh ⊢
    all_goals first
      | exact ⟨_, hh.2, hh.1, rfl⟩
      | exact ⟨_, hh, rfl⟩
      | exact hh.elim
  · exact hh.elim

theorem binW_mono {op : BinOp} {u v : Value} {K K' : Value → Prop} (hk : ∀ r, K r → K' r) (hb : binW op u v K) : binW op u v K' := by
  unfold binW at hb ⊢
  split at hb
  · cases op <;> simp only at hb ⊢
    all_goals first
      | exact ⟨hb.1, hb.2.1, hk _ hb.2.2⟩
      | exact ⟨hb.1, hk _ hb.2⟩
  · cases op <;> simp only at hb ⊢
    all_goals first
      | exact ⟨hb.1, hk _ hb.2⟩
      | exact hk _ hb
      | exact hb.elim
  · exact hb.elim

theorem vop_val {ao : AOp} (hv : vop h ev ao K) : ∃ v, K v ∧ vop h ev ao (fun x => x = v) := by
  revert hv
  cases ao with
  | bin op x y =>
    simp only [vop]
    split
    · intro hv
      obtain ⟨r, h1, h2⟩ := binW_val hv
      exact ⟨_, h1, binW_mono (fun r hr => by rw [hr]) h2⟩
    · exact fun hv => hv.elim
  | slice k x lo hi =>
    simp only [vop]
    split
    · rintro ⟨l, u, h1, h2, h3, h4, h5, h6, h7⟩
      exact ⟨_, h7, l, u, h1, h2, h3, h4, h5, h6, rfl⟩
    · rintro ⟨l, u, h1, h2, h3, h4, h5, h7⟩
      exact ⟨_, h7, l, u, h1, h2, h3, h4, h5, rfl⟩
    · exact fun hv => hv.elim
  | sliceS x lo hi =>
    simp only [vop]
    split
    · rintro ⟨l, u, h1, h2, h3, h4, h5, h7⟩
      exact ⟨_, h7, l, u, h1, h2, h3, h4, h5, rfl⟩
    · exact fun hv => hv.elim
  | indexAddr k x y =>
    simp only [vop]
    split
    · rename_i c es kk j e1 e2
      rintro ⟨⟨h0, h1⟩, h2⟩
      have hlt : j.toNat < es.length := by omega
      obtain ⟨h3, h4, h5⟩ := h2 _ (List.getElem?_eq_getElem hlt)
      refine ⟨_, h5, ⟨h0, h1⟩, fun e he => ?_⟩
      rw [List.getElem?_eq_getElem hlt] at he
      cases he
      exact ⟨h3, h4, rfl⟩
    · exact fun hv => ⟨_, hv.2, hv.1, rfl⟩
    · exact fun hv => hv.elim
  | indexS x y =>
    simp only [vop]
    split
    · rename_i s kk j e1 e2
      rintro ⟨⟨h0, h1⟩, h2⟩
      have hlt : j.toNat < s.size := by omega
      have hs : s[j.toNat]? = some s[j.toNat] := by simp [hlt]
      refine ⟨_, h2 _ hs, ⟨h0, h1⟩, fun e he => ?_⟩
      rw [hs] at he
      cases he
      rfl
    · exact fun hv => hv.elim
  | indexArr l k n x y =>
    simp only [vop]
    split
    · rename_i cs kk j e1 e2
      rintro ⟨⟨h0, h1⟩, h2, h3, h4⟩
      cases n with
      | some n => exact ⟨_, h2, ⟨h0, h1⟩, rfl, h3, h4⟩
      | none =>
        have hlt : j.toNat * k < cs.length := by
          have : j.toNat < l := by omega
          calc j.toNat * k < l * k := Nat.mul_lt_mul_of_pos_right this h4
            _ ≤ cs.length := h3
        refine ⟨_, h2 _ (List.getElem?_eq_getElem hlt), ⟨h0, h1⟩, fun e he => ?_, h3, h4⟩
        rw [List.getElem?_eq_getElem hlt] at he
        cases he
        rfl
    · exact fun hv => hv.elim
  | mkIface t x => exact fun hv => ⟨_, hv, rfl⟩
  | mkFunc f a b => exact fun hv => ⟨_, hv, rfl⟩
  | move x => exact fun hv => ⟨_, hv, rfl⟩
  | load n x =>
    simp only [vop]
    split
    · split
      · cases n with
        | none =>
          simp only
          split
          · exact fun hv => ⟨_, hv, rfl⟩
          · exact fun hv => hv.elim
        | some n => exact fun hv => ⟨_, hv.2, hv.1, rfl⟩
      · exact fun hv => hv.elim
    · cases n with
      | none =>
        simp only
        split
        · exact fun hv => ⟨_, hv, rfl⟩
        · exact fun hv => hv.elim
      | some n => exact fun hv => ⟨_, hv.2, hv.1, rfl⟩
    · exact fun hv => hv.elim
  | field off n x =>
    simp only [vop]
    split
    · cases n with
      | none =>
        simp only
        split
        · exact fun hv => ⟨_, hv, rfl⟩
        · exact fun hv => hv.elim
      | some n => exact fun hv => ⟨_, hv, rfl⟩
    · exact fun hv => hv.elim
  | len b x => cases b <;> simp only [vop] <;> split <;> first | exact fun hv => ⟨_, hv, rfl⟩ | exact fun hv => hv.elim
  | toStr x =>
    simp only [vop]
    split
    · split
      · exact fun hv => ⟨_, hv, rfl⟩
      · exact fun hv => hv.elim
    · exact fun hv => hv.elim
  | extract x i =>
    simp only [vop]
    split
    · split
      · exact fun hv => ⟨_, hv, rfl⟩
      · exact fun hv => hv.elim
    · exact fun hv => hv.elim
  | indexAddrArr l k x y => simp only [vop]; split <;> first | exact fun hv => ⟨_, hv.2, hv.1, rfl⟩ | exact fun hv => hv.elim
  | pick c a b => simp only [vop]; split <;> first | exact fun hv => ⟨_, hv, rfl⟩ | exact fun hv => hv.elim
  | nilCheck x => simp only [vop]; split <;> first | exact fun hv => ⟨_, hv, rfl⟩ | exact fun hv => hv.elim
  | minmax op x y => simp only [vop]; split <;> first | exact fun hv => ⟨_, hv, rfl⟩ | exact fun hv => hv.elim
  | eqB op x y => simp only [vop]; split <;> first | exact fun hv => ⟨_, hv, rfl⟩ | exact fun hv => hv.elim
  | eqN op k x y => simp only [vop]; split <;> first | exact fun hv => ⟨_, hv, rfl⟩ | exact fun hv => hv.elim
  | eqS op k x y => simp only [vop]; (repeat' split) <;> first | exact fun hv => ⟨_, hv, rfl⟩ | exact fun hv => hv.elim
  | un op x => simp only [vop]; split <;> first | exact fun hv => ⟨_, hv, rfl⟩ | exact fun hv => hv.elim
  | conv k x => simp only [vop]; split <;> first | exact fun hv => ⟨_, hv, rfl⟩ | exact fun hv => hv.elim
  | convS x => simp only [vop]; split <;> first | exact fun hv => ⟨_, hv, rfl⟩ | exact fun hv => hv.elim
  | fieldAddr k x => simp only [vop]; split <;> first | exact fun hv => ⟨_, hv, rfl⟩ | exact fun hv => hv.elim
  | build zero parts => simp only [vop]; split <;> first | exact fun hv => ⟨_, hv, rfl⟩ | exact fun hv => hv.elim
  | lenM x => simp only [vop]; (repeat' split) <;> first | exact fun hv => ⟨_, hv, rfl⟩ | exact fun hv => hv.elim
  | capS x => simp only [vop]; (repeat' split) <;> first | exact fun hv => ⟨_, hv, rfl⟩ | exact fun hv => hv.elim
  | typeAssert t z x ok =>
    simp only [vop]
    split
    · split
      · exact fun hv => ⟨_, hv, rfl⟩
      · exact fun hv => ⟨_, hv.2, hv.1, rfl⟩
    · exact fun hv => ⟨_, hv.2, hv.1, rfl⟩
    · exact fun hv => hv.elim
  | slice3 k x lo hi mx =>
    simp only [vop]
    split
    · rintro ⟨l, u, m, h1, h2, h3, h4, h5, h6, h7, h8, h9⟩
      exact ⟨_, h9, l, u, m, h1, h2, h3, h4, h5, h6, h7, h8, rfl⟩
    · exact fun hv => hv.elim
  | lookup ok kk z x y =>
    simp only [vop]
    split
    · split
      · split <;> exact fun hv => ⟨_, hv.2, hv.1, rfl⟩
      · exact fun hv => hv.elim
    · exact fun hv => ⟨_, hv, rfl⟩
    · exact fun hv => hv.elim
  | _ => exact fun hv => hv.elim

end Go.Abs

namespace Go.Abs
open Go Go.RowKit

variable {E : Env} {B : Base} {σ : ASt} {a : Act} {w : World} {g : Gh} {K : ASt → Prop} {Q : AEx → ASt → Prop} {o : Oper} {P : Program}

theorem adop_congr {h : List AObj} {ev ev' : Operand → AV} {K : AV → Prop} (ao : AOp) (hh : ∀ x, x ∈ ao.ops → ev x = ev' x) : adop E h ev ao K = adop E h ev' ao K := by
  unfold adop
  cases ao with
  | buildSlice obj k zero len parts =>
    cases obj with
    | true => exact vop_congr _ hh
    | false =>
      have h1 : ∀ p, p ∈ parts → ev p.2 = ev' p.2 := fun p hp => hh _ (by simp only [AOp.ops, List.mem_map]; exact ⟨p, hp, rfl⟩)
      simp only
      rw [List.map_congr_left h1]
      congr 1
      apply propext
      constructor
      · rintro ⟨a1, a2, a3, a4, a5⟩; exact ⟨a1, a2, a3, a4, fun p hp => by rw [← h1 p hp]; exact a5 p hp⟩
      · rintro ⟨a1, a2, a3, a4, a5⟩; exact ⟨a1, a2, a3, a4, fun p hp => by rw [h1 p hp]; exact a5 p hp⟩
  | call f args =>
    have h1 : ∀ p, p ∈ args → ev p.1 = ev' p.1 := fun p hp => hh _ (by simp only [AOp.ops, List.mem_cons, List.mem_map]; exact .inr ⟨p, hp, rfl⟩)
    simp only
    rw [hh f (by simp [AOp.ops]), List.map_congr_left h1]
  | toBytes x => simp only; rw [hh x (by simp [AOp.ops])]
  | _ => exact vop_congr _ hh

theorem vop_mono {h : List AObj} {ev : Operand → AV} {K K' : AV → Prop} (hk : ∀ v, K v → K' v) {ao : AOp} (hv : vop h ev ao K) : vop h ev ao K' := by
  revert hv
  cases ao with
  | bin op x y =>
    simp only [vop]
    split
    · exact binW_mono fun r hr => hk _ hr
    · exact fun hv => hv.elim
  | slice k x lo hi =>
    simp only [vop]
    split
    · rintro ⟨l, u, h1, h2, h3, h4, h5, h6, h7⟩
      exact ⟨l, u, h1, h2, h3, h4, h5, h6, hk _ h7⟩
    · rintro ⟨l, u, h1, h2, h3, h4, h5, h7⟩
      exact ⟨l, u, h1, h2, h3, h4, h5, hk _ h7⟩
    · exact fun hv => hv.elim
  | sliceS x lo hi =>
    simp only [vop]
    split
    · rintro ⟨l, u, h1, h2, h3, h4, h5, h7⟩
      exact ⟨l, u, h1, h2, h3, h4, h5, hk _ h7⟩
    · exact fun hv => hv.elim
  | indexAddr k x y =>
    simp only [vop]
    split
    · rintro ⟨h0, h2⟩
      exact ⟨h0, fun e he => ⟨(h2 e he).1, (h2 e he).2.1, hk _ (h2 e he).2.2⟩⟩
    · exact fun hv => ⟨hv.1, hk _ hv.2⟩
    · exact fun hv => hv.elim
  | indexS x y =>
    simp only [vop]
    split
    · rintro ⟨h0, h2⟩
      exact ⟨h0, fun e he => hk _ (h2 e he)⟩
    · exact fun hv => hv.elim
  | indexArr l k n x y =>
    simp only [vop]
    split
    · cases n with
      | some n => exact fun hv => ⟨hv.1, hk _ hv.2.1, hv.2.2⟩
      | none => exact fun hv => ⟨hv.1, fun e he => hk _ (hv.2.1 e he), hv.2.2⟩
    · exact fun hv => hv.elim
  | len b x => cases b <;> simp only [vop] <;> split <;> first | exact fun hv => hk _ hv | exact fun hv => hv.elim
  | load n x => simp only [vop]; (repeat' split) <;> intro hv <;> first | exact hv.elim | exact hk _ hv | exact ⟨hv.1, hk _ hv.2⟩
  | field n k x => simp only [vop]; (repeat' split) <;> intro hv <;> first | exact hv.elim | exact hk _ hv
  | toStr x => simp only [vop]; (repeat' split) <;> intro hv <;> first | exact hv.elim | exact hk _ hv
  | extract x i => simp only [vop]; (repeat' split) <;> intro hv <;> first | exact hv.elim | exact hk _ hv
  | indexAddrArr l k x y => simp only [vop]; (repeat' split) <;> intro hv <;> first | exact hv.elim | exact ⟨hv.1, hk _ hv.2⟩
  | move x => exact hk _
  | mkIface t x => exact hk _
  | mkFunc f a b => exact hk _
  | pick c a b => simp only [vop]; split <;> intro hv <;> first | exact hv.elim | exact hk _ hv
  | nilCheck x => simp only [vop]; split <;> intro hv <;> first | exact hv.elim | exact hk _ hv
  | minmax op x y => simp only [vop]; split <;> intro hv <;> first | exact hv.elim | exact hk _ hv
  | eqB op x y => simp only [vop]; split <;> intro hv <;> first | exact hv.elim | exact hk _ hv
  | eqN op k x y => simp only [vop]; split <;> intro hv <;> first | exact hv.elim | exact hk _ hv
  | eqS op k x y => simp only [vop]; (repeat' split) <;> intro hv <;> first | exact hv.elim | exact hk _ hv
  | un op x => simp only [vop]; split <;> intro hv <;> first | exact hv.elim | exact hk _ hv
  | conv k x => simp only [vop]; split <;> intro hv <;> first | exact hv.elim | exact hk _ hv
  | convS x => simp only [vop]; split <;> intro hv <;> first | exact hv.elim | exact hk _ hv
  | fieldAddr k x => simp only [vop]; split <;> intro hv <;> first | exact hv.elim | exact hk _ hv
  | build zero parts => simp only [vop]; split <;> intro hv <;> first | exact hv.elim | exact hk _ hv
  | lenM x => simp only [vop]; (repeat' split) <;> intro hv <;> first | exact hv.elim | exact hk _ hv
  | capS x => simp only [vop]; (repeat' split) <;> intro hv <;> first | exact hv.elim | exact hk _ hv
  | typeAssert t z x ok => simp only [vop]; (repeat' split) <;> intro hv <;> first | exact hv.elim | exact hk _ hv | exact ⟨hv.1, hk _ hv.2⟩
  | slice3 k x lo hi mx =>
    simp only [vop]
    split
    · rintro ⟨l, u, m, h1, h2, h3, h4, h5, h6, h7, h8, h9⟩
      exact ⟨l, u, m, h1, h2, h3, h4, h5, h6, h7, h8, hk _ h9⟩
    · exact fun hv => hv.elim
  | lookup ok kk z x y =>
    simp only [vop]
    split
    · split
      · split <;> exact fun hv => ⟨hv.1, hk _ hv.2⟩
      · exact fun hv => hv.elim
    · exact fun hv => hk _ hv
    · exact fun hv => hv.elim
  | _ => exact fun hv => hv.elim

theorem adop_val {h : List AObj} {ev : Operand → AV} {K : AV → Prop} {ao : AOp} (hv : adop E h ev ao K) : ∃ v, K v ∧ adop E h ev ao (fun x => x = v) := by
  unfold adop at hv ⊢
  revert hv
  split
  · exact fun hv => ⟨_, hv.2, hv.1, rfl⟩
  · split
    · exact fun hv => ⟨_, hv, rfl⟩
    · exact fun hv => hv.elim
  · split
    · rintro ⟨v, h1, h2⟩; exact ⟨_, h2, v, h1, rfl⟩
    · exact fun hv => hv.elim
  · exact vop_val

theorem adop_aop {d : Option Nat} {ao : AOp} {K : AV → Prop} (hnt : ∀ x, ao ≠ .toBytes x) (hv : adop E σ.heap (σ.ev E) ao K) : aop E σ d (fun σ' => ∃ v, K v ∧ σ' = σ.putO d v) Q ao := by
  unfold adop at hv
  revert hv
  split
  · rintro ⟨h1, h2⟩; exact ⟨h1, _, h2, rfl⟩
  · exact absurd rfl (hnt _)
  · rename_i f args
    split
    · rename_i fid first caps heq
      rintro ⟨v, h1, h2⟩
      simp only [aop, fnOf, heq]
      refine Ev.mono h1 fun r h' hrh => ?_
      obtain ⟨hr, hh⟩ := hrh
      subst hr hh
      exact ⟨_, h2, rfl⟩
    · exact fun hv => hv.elim
  · rename_i h1 h2 h3
    intro hv
    have hv2 := vop_mono (K' := fun x => ∃ v, K v ∧ σ.putO d x = σ.putO d v) (fun x hx => ⟨x, hx, rfl⟩) hv
    cases ao with
    | take t => exact hv.elim
    | box x => exact hv.elim
    | alloc x => exact hv.elim
    | store n x y => exact hv.elim
    | append k b z s x => exact hv.elim
    | toBytes x => exact absurd rfl (hnt x)
    | buildSlice obj k zero len parts => exact hv.elim
    | call f args => exact absurd rfl (h3 f args)
    | panic x => exact hv.elim
    | conv8 x => exact hv.elim
    | boxB e te x => exact hv.elim
    | makeMap kk => exact hv.elim
    | appendO k b z s x => exact hv.elim
    | appendZ k b z s x => exact hv.elim
    | eqNil b x => exact hv.elim
    | clearS k z x => exact hv.elim
    | makeSlice b k n z x y => exact hv.elim
    | mapSet kk m k v => exact hv.elim
    | _ => exact hv2

theorem cop_toBytes {P : Program} {op : Op} {x : Operand} (hc : cop P op = some (.toBytes x)) :
    ∃ src dst e, op = .convert src dst x ∧ P.underlying src = some .string ∧ P.underlying dst = some (.slice e) ∧ P.underlying e = some (.int .u8) := by
  cases op with
  | convert src dst y =>
    simp only [cop] at hc
    repeat' split at hc
    all_goals first
      | (cases hc; done)
      | (rename_i h1 h2 _ h3; cases hc; exact ⟨_, _, _, rfl, h1, h2, h3⟩)
  | call c =>
    obtain ⟨callee, args, argTypes⟩ := c
    cases callee with
    | value f => simp only [cop] at hc; cases hc
    | invoke r m => simp [cop] at hc
    | builtin b =>
      cases b <;> first
        | (simp [cop] at hc; done)
        | (simp only [cop] at hc; repeat' split at hc
           all_goals (cases hc; done))
  | slice t x lo hi mx =>
    cases mx with
    | some _ => simp only [cop] at hc; repeat' split at hc
                all_goals (cases hc; done)
    | none => simp only [cop] at hc; repeat' split at hc
              all_goals (cases hc; done)
  | makeMap t r =>
    cases r with
    | some _ => simp [cop] at hc
    | none => simp only [cop] at hc; repeat' split at hc
              all_goals (cases hc; done)
  | _ =>
    first
      | (simp [cop] at hc; done)
      | (simp only [cop] at hc; cases hc; done)
      | (simp only [cop] at hc; repeat' split at hc
         all_goals (cases hc; done))

theorem adop_sound {ao : AOp} {K : AV → Prop} (hc : cop E.P o.op = some ao) (hd : DstOk B.nt o.dst) (hR : RA E B σ a w g) (hv : adop E σ.heap (σ.ev E) ao K) :
    o.wp E.P a w (KC E B fun σ' => ∃ v, K v ∧ σ' = σ.putO o.dst v) (QC E B Q) := by
  by_cases hnt : ∃ x, ao = .toBytes x
  · obtain ⟨x, rfl⟩ := hnt
    obtain ⟨src, dst, e, ho, h1, h2, h3⟩ := cop_toBytes hc
    simp only [adop] at hv
    split at hv
    · rename_i s hx
      exact op_toBytesU ho h1 h2 h3 hd hR hx ⟨_, hv, rfl⟩
    · exact hv.elim
  · exact op_sound (tk := false) (by simpa [copT] using hc) hd hR (adop_aop (fun x hx => hnt ⟨x, hx⟩) hv)

theorem placed_ops {place : Nat → Option (Nat × Nat)} : ∀ {parts : List (Nat × Operand)} {ps : List (Nat × Nat × Operand)}, placed place parts = some ps → ps.map (·.2.2) = parts.map (·.2)
  | [], ps, h => by simp [placed] at h; subst h; rfl
  | (i, x) :: parts, ps, h => by
    simp only [placed] at h
    split at h
    · rename_i off n l h1 h2
      cases h
      simp [placed_ops h2]
    · cases h

theorem cop_ops {op : Op} {ao : AOp} (hc : cop P op = some ao) : ∀ x, x ∈ ao.ops → x ∈ op.operands.toList := by
  cases op with
  | binOp op t x y ty =>
    simp only [cop] at hc
    split at hc
    · split at hc <;> cases hc <;> simp [AOp.ops]
    split at hc
    · cases op <;> simp at hc <;> subst hc <;> simp [AOp.ops, Op.operands]
    · split at hc
      · cases hc; simp [AOp.ops, Op.operands]
      · split at hc
        · cases op <;> simp at hc <;> subst hc <;> simp [AOp.ops, Op.operands]
        · split at hc
          · cases op <;> simp at hc <;> subst hc <;> simp [AOp.ops, Op.operands]
          · cases hc
  | convert src dst x =>
    simp only [cop] at hc
    split at hc
    · cases hc; simp [AOp.ops, Op.operands]
    · cases hc; simp [AOp.ops, Op.operands]
    · split at hc <;> cases hc; simp [AOp.ops, Op.operands]
    · split at hc <;> cases hc; simp [AOp.ops, Op.operands]
    · split at hc
      · split at hc <;> cases hc; simp [AOp.ops]
      · cases hc
    · cases hc
  | slice t x lo hi mx =>
    cases mx with
    | some mx =>
      simp only [cop] at hc
      split at hc
      · split at hc <;> cases hc
        cases lo <;> cases hi <;> simp [AOp.ops, Op.operands] <;> (try omega)
      · cases hc
    | none =>
      simp only [cop] at hc
      split at hc
      · cases hc; cases lo <;> cases hi <;> simp [AOp.ops, Op.operands]
      · split at hc <;> cases hc; cases lo <;> cases hi <;> simp [AOp.ops, Op.operands]
      · cases hc
  | fieldAddr s x f =>
    simp only [cop] at hc
    split at hc
    · split at hc
      · split at hc
        · split at hc <;> cases hc; simp [AOp.ops, Op.operands]
        · cases hc
      · cases hc
    · cases hc
  | field s x f =>
    simp only [cop] at hc
    split at hc
    · split at hc
      · split at hc <;> cases hc; simp [AOp.ops, Op.operands]
      · cases hc
    · cases hc
  | indexAddr t x i =>
    simp only [cop] at hc
    split at hc
    · split at hc <;> cases hc; simp [AOp.ops, Op.operands]
    · split at hc <;> cases hc; simp [AOp.ops, Op.operands]
    · cases hc
  | index t x i =>
    simp only [cop] at hc
    split at hc
    · cases hc; simp [AOp.ops, Op.operands]
    · split at hc <;> cases hc; simp [AOp.ops, Op.operands]
    · cases hc
  | load t x => simp only [cop] at hc; split at hc <;> cases hc; simp [AOp.ops, Op.operands]
  | store t x y => simp only [cop] at hc; split at hc <;> cases hc; simp [AOp.ops]
  | makeInterface t x =>
    simp only [cop] at hc
    split at hc <;> cases hc; simp [AOp.ops, Op.operands]
  | build t parts =>
    simp only [cop] at hc
    split at hc
    · split at hc
      · split at hc
        · rename_i hp; cases hc; simp only [AOp.ops, placed_ops hp, Op.operands]; intro x hx; simpa using hx
        · cases hc
      · cases hc
    · split at hc
      · split at hc
        · rename_i hp; cases hc; simp only [AOp.ops, placed_ops hp, Op.operands]; intro x hx; simpa using hx
        · cases hc
      · cases hc
    · cases hc
  | buildSlice t len parts =>
    simp only [cop] at hc
    split at hc
    · split at hc
      · split at hc
        · cases hc; simp only [AOp.ops, Op.operands]; intro x hx; simpa using hx
        · cases hc
      · cases hc
    · cases hc
  | makeSlice t l c =>
    simp only [cop] at hc
    split at hc
    · split at hc
      · split at hc <;> cases hc; simp [AOp.ops]
      · cases hc
    · cases hc
  | alloc t =>
    simp only [cop] at hc
    split at hc
    · split at hc <;> cases hc; simp [AOp.ops]
    · cases hc
  | call c =>
    obtain ⟨callee, args, argTypes⟩ := c
    cases callee with
    | value f =>
      simp only [cop] at hc; cases hc
      simp only [AOp.ops, Op.operands, Call.operands]
      intro x hx
      simpa using hx
    | invoke r m => simp [cop] at hc
    | builtin b =>
      cases b <;> try (simp [cop] at hc; done)
      case len =>
        simp only [cop] at hc
        split at hc
        · rename_i x t hx ht
          have hmem : x ∈ args := Array.mem_of_getElem? hx
          split at hc <;> cases hc <;> (intro y hy; simp [AOp.ops] at hy; subst hy; simpa [Op.operands, Call.operands] using hmem)
        · cases hc
      case cap =>
        simp only [cop] at hc
        split at hc
        · rename_i x t hx ht
          have hmem : x ∈ args := Array.mem_of_getElem? hx
          split at hc <;> cases hc; (intro y hy; simp [AOp.ops] at hy; subst hy; simpa [Op.operands, Call.operands] using hmem)
        · cases hc
      case clear =>
        simp only [cop] at hc
        split at hc
        · split at hc
          · split at hc
            · split at hc <;> cases hc; simp [AOp.ops]
            · cases hc
          · cases hc
        · cases hc
      case max => simp only [cop] at hc; split at hc <;> cases hc; rename_i x1 x2 ha; intro y hy; have hm : y ∈ args.toList := by { rw [ha]; simpa [AOp.ops] using hy }; simpa [Op.operands, Call.operands] using hm
      case min => simp only [cop] at hc; split at hc <;> cases hc; rename_i x1 x2 ha; intro y hy; have hm : y ∈ args.toList := by { rw [ha]; simpa [AOp.ops] using hy }; simpa [Op.operands, Call.operands] using hm
      case append =>
        simp only [cop] at hc
        split at hc
        · rename_i ha _
          have hop : ∀ y, y ∈ args.toList → y ∈ (Op.call { callee := .builtin .append, args := args, argTypes := argTypes }).operands.toList := fun y hy => by simpa [Op.operands, Call.operands] using hy
          rw [ha] at hop
          split at hc
          · split at hc
            · split at hc <;> cases hc; exact hop
            · split at hc <;> cases hc; exact hop
            · split at hc <;> cases hc; simp [AOp.ops]
            · cases hc
          · cases hc
        · cases hc
  | move x => simp only [cop] at hc; cases hc; simp [AOp.ops, Op.operands]
  | assign x => simp only [cop] at hc; cases hc; simp [AOp.ops, Op.operands]
  | pick c a b => simp only [cop] at hc; cases hc; simp [AOp.ops, Op.operands]
  | nilCheck x => simp only [cop] at hc; cases hc; simp [AOp.ops, Op.operands]
  | unOp op t x => simp only [cop] at hc; cases hc; simp [AOp.ops, Op.operands]
  | extract x i => simp only [cop] at hc; cases hc; simp [AOp.ops, Op.operands]
  | makeFunc f first caps => simp only [cop] at hc; cases hc; intro x hx; simpa [AOp.ops, Op.operands] using hx
  | box t x => simp only [cop] at hc; cases hc; simp [AOp.ops]
  | panic x => simp only [cop] at hc; cases hc; simp [AOp.ops]
  | typeAssert x xt t ok =>
    simp only [cop] at hc
    split at hc
    · cases hc
    · split at hc <;> cases hc; simp [AOp.ops, Op.operands]
    · cases hc
  | makeMap t r =>
    cases r with
    | some _ => simp [cop] at hc
    | none =>
      simp only [cop] at hc
      split at hc
      · split at hc <;> cases hc; simp [AOp.ops]
      · cases hc
  | lookup t x i ok =>
    simp only [cop] at hc
    split at hc
    · split at hc
      · split at hc <;> cases hc; simp [AOp.ops, Op.operands]
      · cases hc
    · cases hc
  | mapUpdate t m k x =>
    simp only [cop] at hc
    split at hc
    · split at hc <;> cases hc; simp [AOp.ops]
    · cases hc
  | insert t m k x =>
    simp only [cop] at hc
    split at hc
    · split at hc <;> cases hc; simp [AOp.ops]
    · cases hc
  | _ => simp [cop] at hc

end Go.Abs
