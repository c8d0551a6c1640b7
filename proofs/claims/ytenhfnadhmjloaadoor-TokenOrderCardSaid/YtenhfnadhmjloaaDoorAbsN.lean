/- Slices that are made; calls. -/
import Derived.Test.YtenhfnadhmjloaaDoorAbsM
set_option linter.all false
namespace Go.Abs
open Go Go.RowKit

variable {E : Env} {B : Base} {σ : ASt} {a : Act} {w : World} {g : Gh} {K : ASt → Prop} {Q : AEx → ASt → Prop} {o : Oper}

theorem setMany_eq : ∀ (avs l : List AV) (off : Nat), off + avs.length ≤ l.length → setMany l off avs = l.take off ++ avs ++ l.drop (off + avs.length)
  | [], l, off, _ => by simp [setMany]
  | x :: avs, l, off, h => by
    simp only [List.length_cons] at h
    rw [setMany, setMany_eq avs _ _ (by simp; omega)]
    rw [List.take_set, List.take_succ_eq_append_getElem (by omega), List.drop_set_of_lt (by omega)]
    rw [List.set_append_right _ _ (by simp; omega)]
    simp only [List.length_take, List.append_assoc, List.length_cons]
    rw [show off - min off l.length = 0 by omega]
    simp [Nat.add_assoc, Nat.add_comm 1]

theorem placed_flat (k : Nat) : ∀ (parts : List (Nat × Operand)), placed (fun i => some (i * k, k)) parts = some (parts.map fun p => (p.1 * k, k, p.2))
  | [] => rfl
  | (i, x) :: parts => by simp [placed, placed_flat k parts]

theorem fillA_all {ev : Operand → AV} {k : Nat} : ∀ (parts : List (Nat × Operand)) (j : Nat) (l : List AV), parts.map (·.1) = List.range' j parts.length →
    (∀ p, p ∈ parts → (ev p.2).sure = true ∧ (ev p.2).cells.length = k) → (j + parts.length) * k ≤ l.length →
    fillA ev l (parts.map fun p => (p.1 * k, k, p.2)) = some (l.take (j * k) ++ flatC (parts.map fun p => ev p.2) ++ l.drop ((j + parts.length) * k))
  | [], j, l, _, _, h => by simp [fillA, flatC]
  | (i, x) :: parts, j, l, h1, h2, h3 => by
    simp only [List.map_cons, List.length_cons, List.range'_succ, List.cons.injEq] at h1
    obtain ⟨rfl, h1⟩ := h1
    obtain ⟨hs, hk⟩ := h2 (i, x) (by simp)
    simp only at hs hk
    have hm : (i + (parts.length + 1)) * k = i * k + k + parts.length * k := by rw [Nat.add_mul, Nat.add_mul, Nat.one_mul]; omega
    simp only [List.length_cons] at h3
    rw [hm] at h3
    simp only [List.map_cons, fillA]
    rw [if_pos ⟨hs, hk, by omega⟩]
    have hm1 : (i + 1) * k = i * k + k := by rw [Nat.add_mul, Nat.one_mul]
    have hm2 : (i + 1 + parts.length) * k = i * k + k + parts.length * k := by rw [Nat.add_mul, hm1]
    rw [fillA_all parts (i + 1) _ h1 (fun p hp => h2 p (by simp [hp])) (by rw [setMany_length, hm2]; omega)]
    rw [setMany_eq _ _ _ (by omega), hk]
    congr 1
    simp only [flatC, List.flatMap_cons, List.length_cons, hm, hm1, hm2]
    have e1 : (l.take (i * k) ++ (ev x).cells ++ l.drop (i * k + k)).take (i * k + k) = l.take (i * k) ++ (ev x).cells := by
      rw [List.take_append_of_le_length (by simp [hk]; omega), List.take_of_length_le (by simp [hk]; omega)]
    have e2 : (l.take (i * k) ++ (ev x).cells ++ l.drop (i * k + k)).drop (i * k + k + parts.length * k) = l.drop (i * k + k + parts.length * k) := by
      rw [List.drop_append, List.drop_eq_nil_of_le (by simp [hk]; omega), List.nil_append, List.drop_drop]
      congr 1
      simp [hk]; omega
    rw [e1, e2]
    simp


/-- A new slice that nobody will write. -/
theorem RA.newSlice (h : RA E B σ a w g) {k : Nat} {es : List AV} {vs : Array Value} {e : TypeId} (hf : Fit k es) (ho : allOne es) (hr : Reps w g σ.heap.length (flatC es) vs.toList) :
    ∃ g', RA E B σ a (w.alloc (.cells vs e)) g' ∧ Rep (w.alloc (.cells vs e)) g' σ.heap.length (.sl .full es) (.slice (some ⟨w.heap.size, 0, none⟩) es.length es.length) := by
  have hg := grown_alloc (n := σ.heap.length) h.gok (.cells vs e) (fun _ => .com)
  refine ⟨_, h.grow' hg, ?_⟩
  simp only [Rep]
  refine ⟨_, _, _, rfl, rfl, Nat.le_refl _, fun _ => rfl, (fun hh => by cases hh), fun a' ha' => ?_⟩
  cases ha'
  refine ⟨rfl, k, Els.of_flat (vs := vs.toList) hf ho (fun j u hj => ⟨?_, by simp [Gh.new]⟩) (Reps.later (hg.later (Nat.le_refl _)) _ _ hr)⟩
  rw [cell_of_heap (heap_alloc_new w _)]
  simpa using hj

theorem parts_map {ρ : Operand → Value} (parts : Array (Nat × Operand)) : (parts.map fun (i, x) => (i, ρ x)).toList = parts.toList.map fun x => (x.1, ρ x.2) := by
  simp

theorem op_buildSlice {obj : Bool} {t e : TypeId} {len : Nat} {parts : Array (Nat × Operand)} {inf : TypeInfo} {z : Value} (ho : o.op = .buildSlice t len parts)
    (hu : E.P.underlying t = some (.slice e)) (hi : E.P.info? e = some inf) (hz : inf.zero = some z)
    (hd : DstOk B.nt o.dst) (hR : RA E B σ a w g) (hv : aop E σ o.dst K Q (.buildSlice obj inf.size (z.cells.toList.map ofCell) len parts.toList)) : o.wp E.P a w (KC E B K) (QC E B Q) := by
  simp only [aop] at hv
  obtain ⟨⟨hp1, hp2, hk, hzl, hp3⟩, hv⟩ := hv
  have hzs : z.cells.size = inf.size := by simpa using hzl
  have hplen : parts.toList.length = len := by have := congrArg List.length hp1; simpa using this
  let es := parts.toList.map fun p => σ.ev E p.2
  have hel : es.length = len := by simp only [es, List.length_map]; exact hplen
  have hf : Fit inf.size es := by
    intro y hy; obtain ⟨p, hp, rfl⟩ := List.mem_map.1 hy; exact ⟨(hp3 p hp).1, (hp3 p hp).2.1⟩
  have ho1 : allOne es := by
    intro y hy; obtain ⟨p, hp, rfl⟩ := List.mem_map.1 hy; exact (hp3 p hp).2.2
  -- the machine's cells
  have hrun : ∃ cells : Array Value, (Instr.buildSlice t len (parts.map fun (i, x) => (i, a.eval x))).run E.P w = .ok (.slice (some ⟨w.heap.size, 0, none⟩) len len) (w.alloc (.cells cells e)) ∧
      Reps w g σ.heap.length (flatC es) cells.toList := by
    by_cases hl0 : len = 0
    · subst hl0
      have hp0 : parts = #[] := by
        have := List.length_eq_zero_iff.1 hplen
        simpa using this
      subst hp0
      exact ⟨#[], by simp [Instr.buildSlice, run_und hu, run_siz hi, Instr.fill, newRow]; congr 2; exact Array.eq_empty_of_size_eq_zero (by simp), by simp [es, flatC, Reps]⟩
    · let zs : Array Value := (Array.range (len * inf.size)).map (z.cells[· % z.cells.size]!)
      have hzsl : zs.size = len * inf.size := by simp [zs]
      obtain ⟨cells, h1, h2⟩ := fill_reps (w := w) (g := g) (n := σ.heap.length) (place := fun i => some (i * inf.size, inf.size)) (fun x => ASt.ev_rep hR x) parts.toList _ (zs.toList.map ofCell) _ zs
        (placed_flat inf.size _) (Reps.ofCells _) (fillA_all parts.toList 0 _ (by rw [hp1, List.range_eq_range', hplen]) (fun p hp => ⟨(hp3 p hp).1, (hp3 p hp).2.1⟩) (by simp [hzsl]; exact Nat.le_of_eq (by rw [← hplen]; simp)))
      refine ⟨cells, run_buildSlice w t e len _ cells inf z hu hi hz (by omega) (by
        intro h0; rcases Nat.mul_eq_zero.1 h0 with h0 | h0 <;> omega) (by rw [parts_map]; exact h1), ?_⟩
      simp only [Nat.zero_mul, List.take_zero, List.nil_append, Nat.zero_add] at h2
      rw [List.drop_eq_nil_of_le (by rw [hplen]; simp [hzsl]), List.append_nil] at h2
      exact h2
  obtain ⟨cells, hrun, hreps⟩ := hrun
  have hexec : (execOp a.eval o).run E.P w = .ok (.value (.slice (some ⟨w.heap.size, 0, none⟩) len len)) (w.alloc (.cells cells e)) := by
    unfold execOp; simp only [ho, Sem.run_bind, hrun, Result.andThen_ok, Sem.run_pure]
  split at hv
  · obtain ⟨h1, h2⟩ := hR.newObj (e := e) (l := (flatC es).map AV.strip) (Reps.stripAll hreps) (noOwn_stripAll _)
    refine wp_value hexec ⟨_, g.newObj w.heap.size σ.heap.length, hv, ?_⟩
    refine h1.putO hd ?_ (fun s => ?_)
    · simp only [Rep, h2]; exact ⟨trivial, by simp, Nat.le_refl _⟩
    · trivial
  · obtain ⟨g', h1, h2⟩ := hR.newSlice (e := e) hf ho1 hreps
    refine wp_value hexec ⟨_, g', hv, h1.putO hd (by rw [hel] at h2; exact h2) (fun s => trivial)⟩

/-- The ghost that a callee is given: the caller's own room is hidden. -/
def hideF : Slot → Own
  | .tmp _ => .none
  | .cell i j => .sp (.cell i j)

def afterOwn : Own → Own → Own
  | .sp (.tmp i), _ => .sp (.tmp i)
  | _, .sp (.tmp _) => .none
  | _, o => o

/-- The ghost behind a call. -/
def Gh.after (g g' : Gh) : Gh where
  loc := g'.loc
  own := fun b off => afterOwn (g.own b off) (g'.own b off)

theorem after_tmp {g g' : Gh} {b off i} (h : g.own b off = .sp (.tmp i)) : (g.after g').own b off = .sp (.tmp i) := by simp [Gh.after, h, afterOwn]
theorem afterOwn_other : ∀ (x o : Own), (∀ i, x ≠ .sp (.tmp i)) → (∀ i, o ≠ .sp (.tmp i)) → afterOwn x o = o := by
  intro x o h ho
  cases x with
  | sp s => cases s with
    | tmp i => exact absurd rfl (h i)
    | cell i j => cases o with
      | sp s => cases s with
        | tmp i => exact absurd rfl (ho i)
        | cell i j => rfl
      | _ => rfl
  | none => cases o with
      | sp s => cases s with
        | tmp i => exact absurd rfl (ho i)
        | cell i j => rfl
      | _ => rfl
  | com => cases o with
      | sp s => cases s with
        | tmp i => exact absurd rfl (ho i)
        | cell i j => rfl
      | _ => rfl
  | obj k => cases o with
      | sp s => cases s with
        | tmp i => exact absurd rfl (ho i)
        | cell i j => rfl
      | _ => rfl
theorem after_other {g g' : Gh} {b off o} (h : ∀ i, g.own b off ≠ .sp (.tmp i)) (h' : g'.own b off = o) (ho : ∀ i, o ≠ .sp (.tmp i)) : (g.after g').own b off = o := by
  simp only [Gh.after, h']
  exact afterOwn_other _ _ h ho

theorem HeapOk.hide {h} (hh : HeapOk w g h) : HeapOk w (g.re hideF) h := fun id l hl =>
  let ⟨vs, e, hc⟩ := hh id l hl
  ⟨vs, e, hc.blk, fun off => re_obj (hc.own off), hc.size, fun j av hj => let ⟨v, h3, h4, h5⟩ := hc.rep j av hj; ⟨v, h3, h4.later later_re, h5.re rfl⟩⟩

/-- The caller's activation behind a call. -/
theorem RA.after {w' : World} {g' : Gh} {h' : List AObj} (h : RA E B σ a w g) (hk : GOk w' g') (hgl : GlOk E w' g') (hh : HeapOk w' g' h') (hst : Stable w (g.re hideF) σ.heap.length w' g') (hn : σ.heap.length ≤ h'.length) :
    RA E B { σ with heap := h' } a w' (g.after g') ∧ Later w' g' h'.length w' (g.after g') h'.length := by
  have hgc : GOk w (g.re hideF) := fun b off ho => h.gok b off fun hn => ho (re_none hn)
  have hl0 := hst.later hgc hn
  have hno : ∀ b off, g'.own b off ≠ .none → ∀ i, g.own b off ≠ .sp (.tmp i) := fun b off hne i hi => by
    have hb := h.gok b off (by rw [hi]; simp)
    exact hne ((hst.own b off hb).1 (by rw [re_sp hi]; rfl))
  have hl2 : Later w' g' h'.length w' (g.after g') h'.length := ⟨Nat.le_refl _, fun _ _ => rfl, fun b off u hc ho => ⟨hc, after_other (hno b off (by rw [ho]; simp)) ho (by simp)⟩⟩
  have hl1 : Later w g σ.heap.length w' (g.after g') h'.length := (later_re (f := hideF)).trans (hl0.trans hl2)
  have hst' : Stable w g σ.heap.length w' (g.after g') := by
    refine ⟨hst.size, hst.os, hst.output, hst.tape, fun b hb ho => hst.blk b hb fun off => (ho off).imp re_none re_com, fun b c e fr hc => ?_, fun b off hb => ⟨fun ho => ?_, fun ho => ?_⟩, hst.loc⟩
    · obtain ⟨c', fr', h1, h2, h3⟩ := hst.cel b c e fr hc
      exact ⟨c', fr', h1, h2, fun off ho => h3 off (ho.imp re_none re_com)⟩
    · exact after_other (by rw [ho]; simp) ((hst.own b off hb).1 (re_none ho)) (by simp)
    · exact after_other (by rw [ho]; simp) ((hst.own b off hb).2 (re_com ho)) (by simp)
  refine ⟨⟨h.nt, fun b off ho => ?_, hgl.later hl2.to_zero, fun i => ⟨(h.tmps i).1.later hl1, (h.tmps i).2.later hl1 ?_⟩, fun id l hl => ?_, h.st.trans hst' h.n0, Nat.le_trans h.n0 hn, h.defers⟩, hl2⟩
  · by_cases hi : ∃ i, g.own b off = .sp (.tmp i)
    · obtain ⟨i, hi⟩ := hi; exact Nat.lt_of_lt_of_le (h.gok b off (by rw [hi]; simp)) hst.size
    · refine hk b off fun hn' => ho (after_other (fun i hh => hi ⟨i, hh⟩) hn' (by simp))
  · intro b off u ho hc hf
    refine ⟨after_tmp ho, ?_⟩
    have hnone : (g.re hideF).own b off = .none := by rw [re_sp ho]; rfl
    unfold World.cell? at hc
    simp only at hc
    split at hc
    · rename_i c e fr heq
      obtain ⟨c', fr', h1, h2, h3⟩ := hst.cel b c e fr heq
      simp at hc
      obtain ⟨hfr, h3'⟩ := h3 off (.inl hnone)
      subst hfr
      refine ⟨⟨u, by rw [cell_of_heap h1, h3']; exact hc⟩, ?_⟩
      obtain ⟨lo, hi⟩ := fr'
      rw [frozen_of_block heq] at hf
      rw [frozen_of_block h1]; exact hf
    · cases hc
  · obtain ⟨vs, e, hc⟩ := hh id l hl
    refine ⟨vs, e, hc.blk, fun off => after_other (hno _ _ (by rw [show (g.after g').loc = g'.loc from rfl, hc.own]; simp)) (hc.own off) (by simp), hc.size, fun j av hj => ?_⟩
    obtain ⟨v, h1, h2, h3⟩ := hc.rep j av hj
    exact ⟨v, h1, h2.later hl2, h3.later hl2 fun b off u ho hcu hf => ⟨after_other (hno _ _ (by rw [ho]; simp)) ho (by simp), ⟨u, hcu⟩, hf⟩⟩

theorem argsOk_of {n : Nat} {args : List AV} {vs : List Value} (h : Reps w g n args vs) (hno : ∀ av ∈ args, NoOwn av) : argsOk w g n args vs.toArray :=
  ⟨by simpa using h.length, fun i av hi => let ⟨v, h1, h2⟩ := h.get i av hi; ⟨v, by simpa using h1, h2, (hno av (List.mem_of_getElem? hi)).spare⟩⟩

/-- A call. -/
theorem op_call {f : Operand} {args : Array Operand} {argTypes : Array TypeId} (ho : o.op = .call { callee := .value f, args, argTypes }) (hd : DstOk B.nt o.dst) (hR : RA E B σ a w g)
    (hv : aop E σ o.dst K Q (.call f (args.toList.map fun x => (x, false)))) : o.wp E.P a w (KC E B K) (QC E B Q) := by
  simp only [aop] at hv
  split at hv
  · rename_i fid first caps hf
    have hrf := ASt.ev_rep hR f
    unfold fnOf at hf
    split at hf
    · rename_i fid' first' caps' e1
      cases hf
      rw [e1] at hrf
      simp only [Rep] at hrf
      obtain ⟨fa, ca, hfv, hr1, hr2⟩ := hrf
      have hargs : Reps w g σ.heap.length (first.map AV.strip ++ (args.toList.map fun x => (x, false)).map (fun x => σ.ev E x.1) ++ caps.map AV.strip) (fa.toList ++ (args.toList.map a.eval) ++ ca.toList) := by
        refine Reps.append (Reps.append (Reps.stripAll hr1) ?_) (Reps.stripAll hr2)
        have := Reps.evs (fun x => ASt.ev_rep hR x) args.toList
        simpa [List.map_map, Function.comp_def] using this
      have hok := argsOk_of (Reps.later (later_re (f := hideF)) _ _ hargs) (by
        intro av hav
        simp only [List.mem_append, List.mem_map] at hav
        rcases hav with (⟨x, _, rfl⟩ | ⟨_, ⟨x, _, rfl⟩, rfl⟩) | ⟨x, _, rfl⟩
        · exact NoOwn.strip _
        · exact ASt.ev_noOwn _
        · exact NoOwn.strip _)
      have hgc : GOk w (g.re hideF) := fun b off ho => hR.gok b off fun hn => ho (re_none hn)
      have hI := hv w (g.re hideF) _ hgc (hR.gl.later (later_re (n := 0))) hR.heap.hide hok
      have hvs : (fa.toList ++ (args.toList.map a.eval) ++ ca.toList).toArray = fa ++ args.map a.eval ++ ca := Array.ext' (by simp)
      rw [hvs] at hI
      have hex : execOp a.eval o = callFunc fid (fa ++ args.map a.eval ++ ca) := by
        unfold execOp
        simp [ho, resolve, Deferred.ofValue, hfv, invoke]
      -- what comes of the callee's end
      have hend : ∀ e w', (∃ r h' g', (match r with
          | .ret v => K ({ σ with heap := h' }.putO o.dst v.strip)
          | .panic v => Q (.panic v) { σ with heap := h' }) ∧ EndRel w' g' h'.length r e ∧ GOk w' g' ∧ GlOk E w' g' ∧ HeapOk w' g' h' ∧ Stable w (g.re hideF) σ.heap.length w' g' ∧ σ.heap.length ≤ h'.length) →
          (match e, w' with
            | .returned v, w'' => KC E B K (a.put o.dst v) w''
            | .panicked chain, w'' => QC E B Q (.panic chain) a w''
            | .outgrown, _ => LetsOut (QC E B Q)) := by
        rintro e w' ⟨r, h', g', hq, hend, hk, hgl, hh, hst, hn⟩
        obtain ⟨hra, hl2⟩ := hR.after hk hgl hh hst hn
        cases r with
        | ret av =>
          obtain ⟨v, rfl, hr⟩ := hend
          exact ⟨_, _, hq, hra.putO hd (hr.later hl2).strip (fun _ => SpareOk.strip)⟩
        | panic av =>
          obtain ⟨v, rfl, hr⟩ := hend
          exact ⟨_, _, _, hq, ⟨v, rfl, hr.later hl2⟩, hra⟩
      rcases hI with ⟨h1, h2⟩ | ⟨v, w', h1, h2⟩
      · unfold Oper.wp
        rw [hex, h1, Oper.upon_enter]
        exact h2.mono fun e w' he => by
          have := hend e w' he
          cases e <;> exact this
      · refine wp_value (by rw [hex]; exact h1) (hend _ _ h2)
    · cases hf
  · exact hv.elim

end Go.Abs
