/- Objects of plain cells that a contract of the kit's writes in place. -/
import Derived.Test.YtloimemacnjpgaaGreatAbsX
import Derived.Test.YtloimemacnjpgaaGreatAbsFz2
import Derived.Shelf.GgSortFunc.RowK
set_option linter.all false
namespace Go.Abs
open Go Go.RowKit

theorem reps_lits {w g n} : ∀ (vs : List Value), Reps w g n (vs.map AV.lit) vs
  | [] => by simp [Reps]
  | v :: vs => by simp only [List.map_cons]; exact Reps.cons'.2 ⟨by simp [Rep], reps_lits vs⟩

theorem put_later {E : Env} {w w' : World} {g : Gh} {h : List AObj} {id : Nat} {l : List AV} {vs : List Value} (hg : GOk w g) (hgl : GlOk E w g) (hh : HeapOk w g h) (hl : h[id]? = some (.cells l)) (hle : vs.length ≤ l.length)
    (hb : Below w.heap.size (setRow w (g.loc id) 0 vs) w') :
    GOk w' g ∧ GlOk E w' g ∧ HeapOk w' g (h.set id (.cells (vs.map AV.lit ++ l.drop vs.length))) ∧ Stable w g h.length w' g := by
  let B : Base := { nt := 0, w0 := w, g0 := g, n0 := h.length }
  have h0 : RA E B ⟨[], h⟩ { tmps := #[], defers := [] } w g := ⟨rfl, hg, hgl, fun i => ⟨by simp [look, Rep], by simp [look, SpareOk]⟩, hh, Stable.refl _ _ _, Nat.le_refl _, rfl⟩
  have h1 := h0.write (id := id) (off := 0) (l := l) (avs := vs.map AV.lit) (vs := vs) hl (reps_lits vs) (fun av hav => by obtain ⟨v, _, rfl⟩ := List.mem_map.1 hav; exact NoOwn.lit v) (by simpa using hle)
  have hm : setMany l 0 (vs.map AV.lit) = vs.map AV.lit ++ l.drop vs.length := by
    rw [setMany_eq _ _ _ (by simpa using hle)]; simp
  rw [hm] at h1
  have hsz : (setRow w (g.loc id) 0 vs).heap.size = w.heap.size := (setRow_misc vs w _ 0).2.2.2.1
  have hgr : Grown (setRow w (g.loc id) 0 vs) g h.length w' g := ⟨hb.size, hb.os, hb.output, hb.tape, fun b hbl => hb.block b (by rw [← hsz]; exact hbl), fun _ _ _ => rfl, fun _ _ => rfl, fun b off ho => Nat.lt_of_lt_of_le (h1.gok b off ho) hb.size⟩
  refine ⟨hgr.gok, h1.gl.later (hgr.later (Nat.le_refl _)).to_zero, ?_, h1.st.trans (n := h.length) hgr.stable (Nat.le_refl _)⟩
  have hgr' : Grown (setRow w (g.loc id) 0 vs) g (h.set id (.cells (vs.map AV.lit ++ l.drop vs.length))).length w' g := by rw [List.length_set]; exact hgr
  exact hgr'.heapOk h1.heap (List.prefix_refl _) (fun id' l' hid hl' => by rw [List.getElem?_eq_none hid] at hl'; cases hl')

theorem holds_obj {w : World} {g : Gh} {n id : Nat} {l : List AV} {vs : Array Value} {e : TypeId} (hc : CellsOk w g n id l vs e) (F : List Value) (hF : l.take F.length = F.map AV.lit) : Sort.Holds _root_.id w (g.loc id) 0 F.toArray := by
  intro j hj
  rw [List.size_toArray] at hj
  have h1 : l[j]? = some (.lit F[j]) := by
    have : (l.take F.length)[j]? = some (.lit F[j]) := by rw [hF]; simp [hj]
    rwa [List.getElem?_take_of_lt hj] at this
  obtain ⟨v, hv, hr, _⟩ := hc.rep j _ h1
  rw [Rep.lit_iff] at hr
  subst hr
  refine ⟨?_, ?_⟩
  · rw [Nat.zero_add, cell_of_heap hc.blk, hv]; simp [hj]
  · rw [frozen_of_block hc.blk]; simp

theorem below_put {w : World} {b : Nat} {F : List Value} {n : Nat} {os : Array Obj} {c : Array Value} {e : TypeId} (hb : w.heap[b]? = some (.cells c e (0, 0))) (hF : F.length ≤ c.size) :
    Below w.heap.size (setRow w b 0 F) (Sort.grow (Sort.putRow _root_.id (Sort.ahead w n) b 0 F.toArray) os) := by
  obtain ⟨h1, h2, h3, h4, h5⟩ := setRow_misc F w b 0
  obtain ⟨c', h6, h7, h8, h9⟩ := setRow_block F w b 0 c e (0, 0) hb (by omega)
  refine ⟨h1.symm, h3.symm, h2.symm, ?_, fun k hk => ?_⟩
  · rw [h4]; simp [Sort.grow, Sort.putRow, Sort.mapBlock, Sort.ahead]
  · have e1 : (Sort.grow (Sort.putRow _root_.id (Sort.ahead w n) b 0 F.toArray) os).heap[k]? = (w.heap.modify b (Sort.onCells (Sort.putCells _root_.id 0 F.toArray)))[k]? := by
      show (w.heap.modify b _ ++ os)[k]? = _
      rw [Array.getElem?_append_left (by simpa using hk)]
    rw [e1, Array.getElem?_modify]
    by_cases hkb : b = k
    · subst hkb
      rw [if_pos rfl, hb, h6]
      show some (Obj.cells _ e (0, 0)) = _
      congr 2
      apply Array.ext_getElem?
      intro j
      simp only [Sort.putCells, Array.getElem?_mapIdx]
      by_cases hj : j < F.length
      · have := h9 j hj
        rw [Nat.zero_add] at this
        rw [this, Array.getElem?_eq_getElem (show j < c.size by omega)]
        simp [hj]
      · rw [h8 j (.inr (by omega))]
        cases c[j]? with
        | none => rfl
        | some x => simp [hj]
    · rw [if_neg hkb, h5 k (Ne.symm hkb)]

theorem ev_of_row {E : Env} {f : FuncId} {fn : Func} {c : Code} {args : List AV} {h : List AObj} {id : Nat} {l : List AV} {F : List Value} {Φ : List Value → Prop} (hf : E.P.funcs[f]? = some fn) (hn : (fn.name == "runtime.NumGoroutine") = false) (hb : fn.body = some c)
    (hl : h[id]? = some (.cells l)) (hF : l.take F.length = F.map AV.lit) (hlen : ∀ F', Φ F' → F'.length = F.length)
    (H : ∀ w g vs, argsOk w g h.length args vs → Sort.Holds _root_.id w (g.loc id) 0 F.toArray → g.loc id < w.heap.size →
      Calls E.P f vs w fun e w' => e = .returned (.tuple #[]) ∧ ∃ F' n os, Φ F' ∧ w' = Sort.grow (Sort.putRow _root_.id (Sort.ahead w n) (g.loc id) 0 F'.toArray) os) :
    Ev E f args h (fun r h' => r = .ret (.tup []) ∧ ∃ F', Φ F' ∧ h' = h.set id (.cells (F'.map AV.lit ++ l.drop F.length))) := by
  intro w g vs hg hgl hh ha
  obtain ⟨cs, e, hc⟩ := hh.cells id l hl
  have hFl : F.length ≤ l.length := by
    have := congrArg List.length hF
    rw [List.length_take, List.length_map] at this
    omega
  refine .inl ⟨?_, ?_⟩
  · simp only [callFunc, Sem.run_bind, run_program, Result.andThen_ok, hf, hn, hb]
    rfl
  · refine (H w g vs ha (holds_obj hc F hF) (lt_of_heap hc.blk)).mono ?_
    rintro e' w' ⟨rfl, F', n, os, hΦ, rfl⟩
    have hle := hlen F' hΦ
    have hbel := below_put (n := n) (os := os) hc.blk (show F'.length ≤ cs.size by rw [hc.size]; omega)
    obtain ⟨k1, k2, k3, k4⟩ := put_later hg hgl hh hl (show F'.length ≤ l.length by omega) hbel
    refine ⟨.ret (.tup []), _, g, ⟨rfl, F', hΦ, rfl⟩, ⟨_, rfl, ?_⟩, k1, k2, ?_, k4, by simp⟩
    · simp only [Rep]; exact ⟨_, rfl, by simp [Reps]⟩
    · rw [← hle]; exact k3

def FreshInts (n0 : Nat) (w' : World) (v : Value) (zs : List Int) : Prop :=
  (v = .slice none 0 0 ∧ zs = []) ∨ ∃ (gb cap : Nat) (cur : Array Value) (e : TypeId) (fr : Nat × Nat), v = .slice (some ⟨gb, 0, none⟩) zs.length cap ∧ n0 ≤ gb ∧ w'.heap[gb]? = some (.cells cur e fr) ∧ zs.length ≤ cap ∧ cur.toList.take zs.length = zs.map (Value.int .i64)
theorem ev_of_fresh {E : Env} {f : FuncId} {fn : Func} {c : Code} {args : List AV} {h : List AObj} {zs : List Int} (hf : E.P.funcs[f]? = some fn) (hn : (fn.name == "runtime.NumGoroutine") = false) (hb : fn.body = some c)
    (H : ∀ w g vs, GOk w g → GlOk E w g → HeapOk w g h → argsOk w g h.length args vs → Calls E.P f vs w fun e w' => ∃ x, e = .returned x ∧ Below w.heap.size w w' ∧ FreshInts w.heap.size w' x zs) : EvR E f args h (.sl .unk (zs.map fun z => AV.lit (.int .i64 z))) := by
  intro w g vs hg hgl hh ha
  refine .inl ⟨?_, ?_⟩
  · simp only [callFunc, Sem.run_bind, run_program, Result.andThen_ok, hf, hn, hb]
    rfl
  · refine (H w g vs hg hgl hh ha).mono ?_
    rintro e w' ⟨x, rfl, hbel, hfr⟩
    rcases hfr with ⟨rfl, rfl⟩ | ⟨gb, cap, cur, e, fr, rfl, hgb, hcur, hcap, htk⟩
    · have hgr := Below.grown (n := h.length) hbel hg
      refine ⟨.ret _, h, g, ⟨rfl, rfl⟩, ⟨_, rfl, ?_⟩, hgr.gok, hgl.later (hgr.later (Nat.le_refl _)).to_zero, ?_, hgr.stable, Nat.le_refl _⟩
      · simp only [Rep]
        exact ⟨none, 0, 0, rfl, rfl, Nat.le_refl _, (fun h => by cases h), fun _ => rfl, fun a ha => by cases ha⟩
      · exact hgr.heapOk hh (List.prefix_refl _) (fun id l hid hl => by rw [List.getElem?_eq_none hid] at hl; cases hl)
    · let g2 : Gh := { own := fun b off => if b = gb then .com else g.own b off, loc := g.loc }
      have hgr : Grown w g h.length w' g2 := ⟨hbel.size, hbel.os, hbel.output, hbel.tape, hbel.block, fun b off hb => if_neg (by omega), fun _ _ => rfl, fun b off ho => by
        by_cases hbb : b = gb
        · subst hbb; exact lt_of_heap hcur
        · have : g2.own b off = g.own b off := if_neg hbb
          rw [this] at ho
          exact Nat.lt_of_lt_of_le (hg b off ho) hbel.size⟩
      refine ⟨.ret _, h, g2, ⟨rfl, rfl⟩, ⟨_, rfl, ?_⟩, hgr.gok, hgl.later (hgr.later (Nat.le_refl _)).to_zero, ?_, hgr.stable, Nat.le_refl _⟩
      · simp only [Rep]
        refine ⟨_, zs.length, cap, rfl, by simp, hcap, (fun h => by cases h), (fun h => by cases h), fun a ha => ?_⟩
        cases ha
        refine ⟨fun _ => rfl, 1, Els.of_get fun i e he => ?_⟩
        rw [List.getElem?_map] at he
        obtain ⟨z, hz, rfl⟩ := Option.map_eq_some_iff.1 he
        refine ⟨.int .i64 z, by simp only [Rep], rfl, ?_⟩
        intro j u hj
        have hj0 : j = 0 := by
          rcases Nat.eq_zero_or_pos j with h | h
          · exact h
          · rw [List.getElem?_eq_none (by simp [Value.cells]; omega)] at hj; cases hj
        subst hj0
        have hu : u = .int .i64 z := by simpa [Value.cells] using hj.symm
        subst hu
        refine ⟨?_, if_pos rfl⟩
        have hil : i < zs.length := (List.getElem?_eq_some_iff.1 hz).1
        rw [cell_of_heap hcur]
        have : (cur.toList.take zs.length)[i]? = some (.int .i64 z) := by rw [htk, List.getElem?_map, hz]; rfl
        rw [List.getElem?_take_of_lt hil] at this
        simpa using this
      · exact hgr.heapOk hh (List.prefix_refl _) (fun id l hid hl => by rw [List.getElem?_eq_none hid] at hl; cases hl)

theorem put_block {α : Type} [Inhabited α] {enc : α → Value} {w : World} {b n : Nat} {d : Array α} {os : Array Obj} {cur : Array Value} {e : TypeId} {fr : Nat × Nat} (hb : w.heap[b]? = some (.cells cur e fr)) :
    (Sort.grow (Sort.putRow enc (Sort.ahead w n) b 0 d) os).heap[b]? = some (.cells (Sort.putCells enc 0 d cur) e fr) := by
  have hlt := lt_of_heap hb
  show (w.heap.modify b _ ++ os)[b]? = _
  rw [Array.getElem?_append_left (by simpa using hlt), Array.getElem?_modify, if_pos rfl, hb]
  rfl
theorem put_take {α : Type} [Inhabited α] {enc : α → Value} {d : Array α} {cur : Array Value} (hs : d.size ≤ cur.size) : (Sort.putCells enc 0 d cur).toList.take d.size = d.toList.map enc := by
  apply List.ext_getElem
  · simp [Sort.putCells]; omega
  · intro i h1 h2
    have hi : i < d.size := by simpa using h2
    simp [Sort.putCells, hi]
theorem Ev.freezeS {E : Env} {f : FuncId} {args : List AV} {h : List AObj} {es : List AV} (z : List AV) (k : Nat) (hk : Fit k es) (ho : allOne es) (hu : unders h.length (flatC es) = true) (hz : z.length = k)
    (hh : Ev E f args h (fun r h' => Closed h ∧ ∃ (s : AV) (J : List AObj), r = .ret s ∧ h' = h ++ J ∧ SlotOk h' h.length z es s)) : EvR E f args h (.sl .unk es) := by
  have h1 : Ev E f args h (fun r h' => (r = .ret (.sl .full []) ∧ es = [] ∧ h' = h) ∨ (Closed h ∧ ∃ (id cap : Nat) (J : List AObj), r = .ret (.vw id 0 es.length cap) ∧ h' = h ++ J ∧ h'[id]? = some (.cells (dynL z es cap)) ∧ es.length ≤ cap ∧ h.length ≤ id)) := by
    intro w g vs hg hgl hp ha
    refine (hh w g vs hg hgl hp ha).mono ?_
    rintro e w' ⟨r, h', g', ⟨hcl, s, J, rfl, rfl, hs⟩, hend, hk', hgl', hhp, hst, hle⟩
    rcases hs with ⟨rfl, rfl⟩ | ⟨id, cap, rfl, h2, h3, h4⟩
    · obtain ⟨x, rfl, hr⟩ := hend
      exact ⟨_, h, g', .inl ⟨rfl, rfl, rfl⟩, ⟨x, rfl, Rep.fewer _ _ rfl hr⟩, hk', hgl', HeapOk.fewer hhp hp.closed, hst, Nat.le_refl _⟩
    · exact ⟨_, _, g', .inr ⟨hcl, id, cap, J, rfl, rfl, h2, h3, h4⟩, hend, hk', hgl', hhp, hst, hle⟩
  refine Ev.freeze (h1.mono fun r h' hq => ?_)
  rcases hq with ⟨rfl, rfl, rfl⟩ | ⟨hcl, id, cap, J, rfl, rfl, h2, h3, h4⟩
  · exact .inl ⟨.full, [], rfl, rfl, rfl⟩
  · exact .inr ⟨J, id, es.length, cap, _, es, k, rfl, rfl, h4, h2, dyn_take hk, hk, ho, rfl, by rw [dynL_len hk hz h3]; exact Nat.mul_le_mul_right _ h3, hu, hcl, rfl⟩
theorem AppO.useN {k b lo : Nat} {z : List AV} {h P J : List AObj} {s : AV} {es xs : List AV} {K : List AObj → AV → Prop} {t} (hh : h = P ++ J) (hlo : P.length = lo) (hs : SlotOk (P ++ J) lo z es s) (hk : 0 < k) (hz : z.length = k)
    (hfe : Fit k es) (hfx : Fit k xs) (hox : allOne xs) (hse : (flatC es).map AV.strip = flatC es) (hsx : (flatC xs).map AV.strip = flatC xs) (hb : (2 * (es.length + xs.length) + 192) * b ≤ 2 ^ 48) (hn : es.length + xs.length < 2 ^ 62)
    (hK : ∀ J' s', SlotOk (P ++ J') lo z (es ++ xs) s' → Frm (P ++ J) (P ++ J') s → Heir (P ++ J) s s' → K (P ++ J') s') : AppO k b z h s xs K t := by
  by_cases hxs : xs = []
  · subst hh hlo hxs
    rcases hs with ⟨rfl, rfl⟩ | ⟨id, cap, rfl, h2, h3, h4⟩
    · simp only [AppO, mSlO]
      refine Need.mk ⟨hk, hz, hfe, hfx, hox, by simpa using hb, by simpa using hn⟩ (AppF.mk (fun _ => ⟨rfl, ?_⟩) fun hn _ _ => absurd rfl hn)
      exact hK J _ (.inl ⟨rfl, rfl⟩) (fun i o ho _ => ho) (fun i a b h => by cases h)
    · simp only [AppO, mSlO, h2, mObj]
      have hl := dyn_in (z := z) (cap := cap) (xs := []) hfe hfx hz hsx
      refine Need.mk ⟨hk, hz, hfx, hox, by rw [dynL_len hfe hz h3, Nat.zero_add]; exact Nat.mul_le_mul_right _ h3, hb, hn⟩ (AppF.mk (fun hfit => ⟨?_, ?_⟩) fun hfit cap' hc => ?_)
      · rw [dynL_len hfe hz h3, Nat.zero_add]; exact Nat.mul_le_mul_right _ hfit
      · rw [hl hfit, List.set_append_right _ _ h4]
        refine hK _ _ (.inr ⟨id, cap, by simp, ?_, by simpa using hfit, h4⟩) (fun i o ho hne => ?_) (fun i a b h => ?_)
        · have hlt := (List.getElem?_eq_some_iff.1 h2).1
          rw [← List.set_append_right _ _ h4, List.getElem?_set_self hlt]
        · rw [← List.set_append_right _ _ h4, List.getElem?_set_ne (fun h => hne _ _ (by rw [← h]))]; exact ho
        · cases h; exact .inl ⟨_, _, rfl⟩
      · exact absurd (by simpa using h3) hfit
  · exact AppO.use hh hlo hs hk hz hfe hfx hox hse hsx hb hn hxs hK
end Go.Abs
