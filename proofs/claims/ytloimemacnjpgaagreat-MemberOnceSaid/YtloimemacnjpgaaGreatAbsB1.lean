/- A builder that is part of another record: what append does to its text; what its methods turn. -/
import Derived.Test.YtloimemacnjpgaaGreatAbsX
import Derived.Lib.FrozenHead2
import Derived.Lib.AppendStr
set_option linter.all false
namespace Go.Abs
open Go Go.RowKit

theorem ownsF_zero {w : World} {base : Nat} {e : TypeId} {size : Nat} {v : Value} {n : Nat} {xs : List Value} (h : w.ownsRowF base e size v n xs) : w.ownsRowF 0 e size v n xs := by
  refine ⟨h.1, ?_⟩
  rcases h.2 with hn | ⟨g, cap, cur, fz, rfl, _, rest⟩
  · exact .inl hn
  · exact .inr ⟨g, cap, cur, fz, rfl, Nat.zero_le _, rest⟩

/-- Where a text lies behind an append: where it lay, or in a new block. -/
def Moved (w : World) (v v' : Value) : Prop := v'.ownBlock = v.ownBlock ∨ ∃ k, v'.ownBlock = some k ∧ w.heap.size ≤ k

theorem moved_of_base {w w' : World} {e : TypeId} {size : Nat} {v v' : Value} {n : Nat} {xs : List Value} (hv : v.ownBlock = none) (h : w'.ownsRowF w.heap.size e size v' n xs) : Moved w v v' := by
  rcases h.2 with ⟨rfl, _⟩ | ⟨g, cap, cur, fz, rfl, hb, _⟩
  · exact .inl hv.symm
  · exact .inr ⟨g, rfl, hb⟩

theorem moved_new {w : World} {v : Value} {a b : Nat} {s : Option Nat} {o : Nat} : Moved w v (.slice (some ⟨w.heap.size, o, s⟩) a b) := .inr ⟨_, rfl, Nat.le_refl _⟩

section
variable {P : Program} (w : World)

theorem run_bld_string (t u ty e : TypeId) (i : TypeInfo) (ht : P.underlying t = some (.slice e)) (hu : P.underlying u = some .string) (hi : P.info? e = some i) (hz : i.zero = some (.int .u8 0))
    (hsize : i.size = 1) (hby : i.bytes = 1)
    (v : Value) (n : Nat) (xs : List Value) (hown : w.ownsRowF 0 e 1 v n xs) (s : ByteArray) (hbytes : n + s.size ≤ 140737488355328) :
    ∃ v' w', (Builtin.append_ #[t, u] ty #[v, .string s]).run P w = .ok v' w' ∧ w'.ownsRowF 0 e 1 v' (n + s.size) (xs ++ Lib.strCells s) ∧ w.grownBy w' v.ownBlock ∧ Moved w v v' := by
  have h63 : n + s.size ≤ maxLen := by unfold maxLen; omega
  rcases hown.2 with ⟨rfl, rfl⟩ | ⟨g, cap, cur, fz, rfl, hbg, hg, hfz, hnc, hcm, hcs, htake⟩
  · obtain ⟨v', w', r1, r2, r3, _⟩ := Lib.run_append_own_stringF (P := P) w w.heap.size t u ty e i ht hu hi hz hsize hby (.slice none 0 0) 0 xs ⟨hown.1, .inl ⟨rfl, rfl⟩⟩ s h63 hbytes (Nat.le_refl _)
    exact ⟨v', w', r1, ownsF_zero r2, r3, moved_of_base rfl r2⟩
  · obtain ⟨v', w', r1, r2, r3, _⟩ := Lib.run_append_own_stringF (P := P) w 0 t u ty e i ht hu hi hz hsize hby _ n xs hown s h63 hbytes (Nat.zero_le _)
    refine ⟨v', w', r1, r2, r3, ?_⟩
    by_cases hroom : n + s.size ≤ cap
    · have hr := Lib.run_append_room_stringF (P := P) w t u ty e i ht hu hi hsize g n cap cur fz hg (by simpa using hfz) s hroom (by omega)
      rw [r1] at hr
      injection hr with h1 _
      subst h1
      exact .inl rfl
    · have hxl : xs.length = n := by simpa using hown.1
      have hr := Lib.run_append_grow_string (P := P) w t u ty e i (.int .u8 0) ht hu hi hz ⟨g, 0, none⟩ n cap xs (by rw [hsize]; simpa using hxl) (hown.cells (g := g) rfl) s (by omega) (by omega) (by rw [hby]; exact growslice_fits (by omega) (by omega))
      rw [r1] at hr
      injection hr with h1 _
      subst h1
      exact moved_new

theorem run_bld_byte (t ty e : TypeId) (i : TypeInfo) (ht : P.underlying t = some (.slice e)) (hi : P.info? e = some i) (hz : i.zero = some (.int .u8 0))
    (hsize : i.size = 1) (hby : i.bytes = 1)
    (v : Value) (n : Nat) (xs : List Value) (hown : w.ownsRowF 0 e 1 v n xs) (a : Addr) (c : Int) (hc : w.cell? a = some (.int .u8 c)) (hbytes : n + 1 ≤ 140737488355328) :
    ∃ v' w', (Builtin.append_ #[t, t] ty #[v, .slice (some a) 1 1]).run P w = .ok v' w' ∧ w'.ownsRowF 0 e 1 v' (n + 1) (xs ++ [.int .u8 c]) ∧ w.grownBy w' v.ownBlock ∧ Moved w v v' := by
  have h63 : n + 1 ≤ maxLen := by unfold maxLen; omega
  have hn : ∀ (j : Nat) u, [Value.int .u8 c][j]? = some u → w.cell? (a.add j) = some u := by
    intro j u hj
    match j, hj with
    | 0, hj => simp at hj; subst hj; simpa [Addr.add] using hc
  have h1c : ∀ u ∈ [Value.int .u8 c], u.oneCell' = true := by intro u hu; simp at hu; subst hu; rfl
  have hzs : (Value.int .u8 0).cells.size = 1 := rfl
  rcases hown.2 with ⟨rfl, rfl⟩ | ⟨g, cap, cur, fz, rfl, hbg, hg, hfz, hnc, hcm, hcs, htake⟩
  · obtain ⟨v', w', r1, r2, r3, _⟩ := run_append_ownF (P := P) w w.heap.size t ty e i _ 1 1 ht hi hz hsize hby hzs (by decide) (.slice none 0 0) 0 xs ⟨hown.1, .inl ⟨rfl, rfl⟩⟩ a 1 1 [.int .u8 c] rfl hn h1c h63 (by simpa using hbytes) (Nat.le_refl _)
    exact ⟨v', w', r1, ownsF_zero r2, r3, moved_of_base rfl r2⟩
  · obtain ⟨v', w', r1, r2, r3, _⟩ := run_append_ownF (P := P) w 0 t ty e i _ 1 1 ht hi hz hsize hby hzs (by decide) _ n xs hown a 1 1 [.int .u8 c] rfl hn h1c h63 (by simpa using hbytes) (Nat.zero_le _)
    refine ⟨v', w', r1, r2, r3, ?_⟩
    by_cases hroom : n + 1 ≤ cap
    · have hr := run_append_roomF (P := P) w t ty e i ht hi g n cap cur fz hg (by rw [hsize]; exact hfz) a 1 1 [.int .u8 c] (by rw [hsize]; rfl) hn h1c hroom (by rw [hsize, hcs]; simp; omega)
      rw [r1] at hr
      injection hr with h1 _
      subst h1
      exact .inl rfl
    · have hr := run_append_grow (P := P) w t ty e i _ ht hi hz ⟨g, 0, none⟩ n cap xs (by rw [hsize]; exact hown.1) (hown.cells (g := g) rfl) a 1 1 [.int .u8 c] (by rw [hsize]; rfl) hn (by omega) (by omega) (by rw [hby]; exact growslice_fits (by omega) (by omega))
      rw [r1] at hr
      injection hr with h1 _
      subst h1
      exact moved_new

theorem wpList_bld_string {ops : Array Oper} {rest : List Oper} {o : Oper} {a : Act} {Q : Exit → Act → World → Prop} (hgd : o.guard = none) (sl x : Operand) (t u : TypeId)
    (ho : o.op = .call { callee := .builtin .append, args := #[sl, x], argTypes := #[t, u] })
    (e : TypeId) (i : TypeInfo) (ht : P.underlying t = some (.slice e)) (hu : P.underlying u = some .string) (hi : P.info? e = some i) (hz : i.zero = some (.int .u8 0))
    (hsize : i.size = 1) (hby : i.bytes = 1)
    (v : Value) (n : Nat) (xs : List Value) (hs : a.eval sl = v) (hown : w.ownsRowF 0 e 1 v n xs) (s : ByteArray) (hx : a.eval x = .string s) (hbytes : n + s.size ≤ 140737488355328)
    (h : ∀ v' w', w'.ownsRowF 0 e 1 v' (n + s.size) (xs ++ Lib.strCells s) → w.grownBy w' v.ownBlock → Moved w v v' → wpList P ops Q rest (a.put o.dst v') w') : wpList P ops Q (o :: rest) a w := by
  refine wpList_plain hgd fun K hK => ?_
  obtain ⟨v', w', hr, h2, h3, h4⟩ := run_bld_string (P := P) w t u o.type e i ht hu hi hz hsize hby v n xs hown s hbytes
  unfold Oper.wp execOp
  simp only [ho, resolve, invoke, builtin, Sem.run_bind, Sem.run_pure, Result.andThen_ok, List.map_toArray, List.map_cons, List.map_nil, hs, hx, hr]
  exact hK _ _ (h v' w' h2 h3 h4)

theorem wpList_bld_byte {ops : Array Oper} {rest : List Oper} {o : Oper} {a : Act} {Q : Exit → Act → World → Prop} (hgd : o.guard = none) (sl x : Operand) (t : TypeId)
    (ho : o.op = .call { callee := .builtin .append, args := #[sl, x], argTypes := #[t, t] })
    (e : TypeId) (i : TypeInfo) (ht : P.underlying t = some (.slice e)) (hi : P.info? e = some i) (hz : i.zero = some (.int .u8 0))
    (hsize : i.size = 1) (hby : i.bytes = 1)
    (v : Value) (n : Nat) (xs : List Value) (hs : a.eval sl = v) (hown : w.ownsRowF 0 e 1 v n xs) (ad : Addr) (c : Int) (hx : a.eval x = .slice (some ad) 1 1) (hc : w.cell? ad = some (.int .u8 c)) (hbytes : n + 1 ≤ 140737488355328)
    (h : ∀ v' w', w'.ownsRowF 0 e 1 v' (n + 1) (xs ++ [.int .u8 c]) → w.grownBy w' v.ownBlock → Moved w v v' → wpList P ops Q rest (a.put o.dst v') w') : wpList P ops Q (o :: rest) a w := by
  refine wpList_plain hgd fun K hK => ?_
  obtain ⟨v', w', hr, h2, h3, h4⟩ := run_bld_byte (P := P) w t o.type e i ht hi hz hsize hby v n xs hown ad c hc hbytes
  unfold Oper.wp execOp
  simp only [ho, resolve, invoke, builtin, Sem.run_bind, Sem.run_pure, Result.andThen_ok, List.map_toArray, List.map_cons, List.map_nil, hs, hx, hr]
  exact hK _ _ (h v' w' h2 h3 h4)
end

/-- A record that begins with a builder. -/
structure Bld (w : World) (b : Nat) (cs : Array Value) (e te : TypeId) (v : Value) (l : List UInt8) : Prop where
  blk : w.heap[b]? = some (.cells cs e (0, 0))
  c0 : cs[0]? = some (.pointer none) ∨ cs[0]? = some (.pointer (some ⟨b, 0, none⟩))
  c1 : cs[1]? = some v
  own : w.ownsRowF 0 te 1 v l.length (Lib.byteCells l)
  ne : v.ownBlock ≠ some b

/-- What a builder's method does to the world. -/
structure BldStep (w : World) (b : Nat) (cs : Array Value) (v : Value) (w' : World) (cs' : Array Value) (v' : Value) : Prop where
  size : cs'.size = cs.size
  rest : ∀ j, 2 ≤ j → cs'[j]? = cs[j]?
  moved : Moved w v v'
  os : w'.os = w.os
  output : w'.output = w.output
  tape : w'.tape = w.tape
  heap : w.heap.size ≤ w'.heap.size
  others : ∀ k, k < w.heap.size → k ≠ b → some k ≠ v.ownBlock → w'.heap[k]? = w.heap[k]?

theorem bld_ev {E : Env} {f : FuncId} {fn : Func} {c : Code} {args : List AV} {h : List AObj} {id : Nat} {e te : TypeId} {l l' : List UInt8} {rest : List AV} {av : AV} (hf : E.P.funcs[f]? = some fn) (hn : (fn.name == "runtime.NumGoroutine") = false) (hbd : fn.body = some c)
    (hid : h[id]? = some (.cells (.bp e :: .buf te l :: rest)))
    (H : ∀ (w : World) (g : Gh) vs (cs : Array Value) v, argsOk w g h.length args vs → cs.size = rest.length + 2 → Bld w (g.loc id) cs e te v l →
      Calls E.P f vs w fun en w' => ∃ x cs' v', en = .returned x ∧ (∀ w g n, Rep w g n av x) ∧ Bld w' (g.loc id) cs' e te v' l' ∧ BldStep w (g.loc id) cs v w' cs' v') :
    Ev E f args h (fun r h' => r = .ret av ∧ h' = h.set id (.cells (.bp e :: .buf te l' :: rest))) := by
  intro w g vs hg hgl hh ha
  have hidl : id < h.length := (List.getElem?_eq_some_iff.1 hid).1
  obtain ⟨cs, e0, hc⟩ := hh.cells id _ hid
  obtain ⟨rfl, hc0⟩ := hc.bp e rfl
  obtain ⟨v, hc1, hown, hsp⟩ := hc.buf 1 te l rfl
  have hB : Bld w (g.loc id) cs e te v l := ⟨hc.blk, hc0, hc1, hown, fun hh => by
    have h1 := hsp _ hh 0
    rw [hc.own] at h1
    cases h1⟩
  refine .inl ⟨?_, ?_⟩
  · simp only [callFunc, Sem.run_bind, run_program, Result.andThen_ok, hf, hn, hbd]
    rfl
  refine (H w g vs cs v ha (by rw [hc.size]; simp) hB).mono ?_
  rintro en w' ⟨x, cs', v', rfl, hx, hB', hS⟩
  let g' : Gh := { g with own := fun b' o => if v'.ownBlock = some b' then .sp (.cell id 1) else g.own b' o }
  have hold : ∀ b' o, b' < w.heap.size → g'.own b' o = g.own b' o := fun b' o hb => by
    show (if v'.ownBlock = some b' then Own.sp (.cell id 1) else g.own b' o) = _
    split
    · rename_i hv
      rcases hS.moved with hm | ⟨k, hk, hk'⟩
      · exact (hsp b' (by rw [← hm]; exact hv) o).symm
      · rw [hv] at hk; cases hk; omega
    · rfl
  have hsame : ∀ b' o, b' < w.heap.size → g.own b' o ≠ .obj id → g.own b' o ≠ .sp (.cell id 1) → w'.heap[b']? = w.heap[b']? := fun b' o hb h1 h2 =>
    hS.others b' hb (fun hh => h1 (by rw [hh]; exact hc.own o)) (fun hh => h2 (hsp b' hh.symm o))
  have hlater : Later w g h.length w' g' (h.set id (.cells (.bp e :: .buf te l' :: rest))).length := by
    refine ⟨by simp, fun _ _ => rfl, fun b' o u hcu ho => ?_, fun b' o hbo ho => ⟨by rw [hsame b' 0 (lt_of_heap hbo) (by rw [ho 0]; simp) (by rw [ho 0]; simp)]; exact hbo, fun off => by rw [hold b' off (lt_of_heap hbo)]; exact ho off⟩⟩
    have hb := World.block_lt_of_cell? w _ hcu
    exact ⟨by rw [World.cell?_of_block (w := w) (hsame b' o hb (by rw [ho]; simp) (by rw [ho]; simp))]; exact hcu, by rw [hold b' o hb]; exact ho⟩
  have hks : ∀ s, s ≠ .cell id 1 → KeepsSp w g w' g' s := fun s hs b' o u ho hcu hf => by
    have hb := World.block_lt_of_cell? w _ hcu
    have hh := hsame b' o hb (by rw [ho]; simp) (by rw [ho]; simpa using hs)
    exact ⟨by rw [hold b' o hb]; exact ho, ⟨u, by rw [World.cell?_of_block (w := w) hh]; exact hcu⟩, by rw [World.frozen?_of_block (w := w) hh]; exact hf⟩
  have hgok : GOk w' g' := fun b' o ho => by
    rcases Nat.lt_or_ge b' w.heap.size with hb | hb
    · exact Nat.lt_of_lt_of_le hb hS.heap
    · by_cases hv : v'.ownBlock = some b'
      · exact (hB'.own.lt b' hv).2
      · have : g'.own b' o = g.own b' o := if_neg hv
        rw [this] at ho
        exact Nat.lt_of_lt_of_le (hg b' o ho) hS.heap
  have hloc : g.loc id < w.heap.size := lt_of_heap hc.blk
  refine ⟨.ret av, _, g', ⟨rfl, rfl⟩, ⟨x, rfl, hx _ _ _⟩, hgok, hgl.later hlater.to_zero, ?_, ?_, by simp⟩
  · refine HeapOk.mk' ?_ fun id' kk es hl => ?_
    rotate_left
    · have hii : id ≠ id' := by
        rintro rfl
        simp only [List.getElem?_set_self hidl] at hl
        cases hl
      rw [List.getElem?_set_ne hii] at hl
      have hm := hh.map id' kk es hl
      have hid' : id' < h.length := (List.getElem?_eq_some_iff.1 hl).1
      have hm2 := hm; obtain ⟨en, clock, q1, q2, _⟩ := hm2
      have hlb := lt_of_heap q1
      exact hm.step hid' hlater (hsame _ 0 hlb (by rw [q2]; intro hh; cases hh; exact hii rfl) (by rw [q2]; simp)) (fun o => hold _ o hlb)
    intro id' lst hl
    by_cases hii : id = id'
    · subst hii
      simp only [List.getElem?_set_self hidl] at hl
      cases hl
      refine ⟨cs', e, hB'.blk, fun o => by rw [show g'.loc id = g.loc id from rfl, hold _ o hloc]; exact hc.own o, by rw [hS.size, hc.size]; rfl, fun j a hj => ?_, fun e' he' => ?_, fun j te' b he' => ?_⟩
      · match j, hj with
        | 0, hj =>
          cases hj
          rcases hB'.c0 with h0 | h0
          · exact ⟨_, h0, by simp [Rep], trivial⟩
          · exact ⟨_, h0, by simp [Rep], trivial⟩
        | 1, hj => cases hj; exact ⟨v', hB'.c1, by simp [Rep], trivial⟩
        | j + 2, hj =>
          obtain ⟨u, q1, q2, q3⟩ := hc.rep (j + 2) a hj
          exact ⟨u, by rw [hS.rest _ (by omega)]; exact q1, q2.later hlater, q3.later hlater (hks _ (by simp))⟩
      · cases he'; exact ⟨rfl, hB'.c0⟩
      · match j, he' with
        | 1, he' =>
          cases he'
          exact ⟨v', hB'.c1, hB'.own, fun k hk o => if_pos hk⟩
        | j + 2, he' =>
          obtain ⟨u, q1, q2, q3⟩ := hc.buf (j + 2) te' b he'
          have hb : ∀ k, u.ownBlock = some k → w'.heap[k]? = w.heap[k]? := fun k hk => hsame k 0 (q2.lt k hk).2 (by rw [q3 k hk]; simp) (by rw [q3 k hk]; simp)
          exact ⟨u, by rw [hS.rest _ (by omega)]; exact q1, buf_keep q2 hb, fun k hk o => by rw [hold k o (q2.lt k hk).2]; exact q3 k hk o⟩
    · rw [List.getElem?_set_ne hii] at hl
      obtain ⟨vs', e', hc'⟩ := hh.cells id' lst hl
      have hid' : id' < h.length := (List.getElem?_eq_some_iff.1 hl).1
      have hne : ∀ j, Slot.cell id' j ≠ .cell id 1 := fun j hh => by cases hh; exact hii rfl
      have hlb := lt_of_heap hc'.blk
      refine ⟨vs', e', hc'.step hid' hlater (hsame _ 0 hlb (by rw [hc'.own]; intro hh; cases hh; exact hii rfl) (by rw [hc'.own]; simp)) (fun o => hold _ o hlb) (fun j => hks _ (hne j)) fun b' j hb hall => ?_⟩
      refine ⟨hsame b' 0 hb (by rw [hall 0]; simp) (by rw [hall 0]; simpa using hne j), fun o => by rw [hold b' o hb]; exact hall o⟩
  · refine ⟨hS.heap, hS.os, hS.output, hS.tape, fun b' hb hall => ?_, fun b' c2 e2 fr2 hcc hx => ?_, fun b' o hb => ⟨fun ho => by rw [hold b' o hb]; exact ho, fun ho => by rw [hold b' o hb]; exact ho⟩, fun _ _ => rfl⟩
    · rcases hall 0 with ho | ho
      · exact hsame b' 0 hb (by rw [ho]; simp) (by rw [ho]; simp)
      · exact hsame b' 0 hb (by rw [ho]; simp) (by rw [ho]; simp)
    · obtain ⟨o, ho⟩ := hx
      have hb := lt_of_heap hcc
      have hh := hsame b' o hb (by rcases ho with ho | ho <;> rw [ho] <;> simp) (by rcases ho with ho | ho <;> rw [ho] <;> simp)
      exact ⟨c2, fr2, by rw [hh]; exact hcc, rfl, fun _ _ => ⟨rfl, rfl⟩⟩


theorem Bld.lt {w : World} {b : Nat} {cs : Array Value} {e te : TypeId} {v : Value} {l : List UInt8} (h : Bld w b cs e te v l) : b < w.heap.size := lt_of_heap h.blk

/-- The text is written behind its end; the record's cell holds the new slice. -/
theorem Bld.wrote {w0 w1 w2 : World} {b : Nat} {cs cs1 : Array Value} {e te : TypeId} {v v' : Value} {l l' : List UInt8} (h : Bld w1 b cs1 e te v l) (hs : cs1.size = cs.size) (hr : ∀ j, 2 ≤ j → cs1[j]? = cs[j]?)
    (ho1 : w1.os = w0.os) (ho2 : w1.output = w0.output) (ho3 : w1.tape = w0.tape) (hsz : w1.heap.size = w0.heap.size) (hoth : ∀ k, k ≠ b → w1.heap[k]? = w0.heap[k]?)
    (hown : w2.ownsRowF 0 te 1 v' l'.length (Lib.byteCells l')) (hg1 : w1.heap.size ≤ w2.heap.size) (hg2 : w2.os = w1.os) (hg3 : w2.output = w1.output) (hg4 : w2.tape = w1.tape)
    (hg5 : ∀ k, k < w1.heap.size → some k ≠ v.ownBlock → w2.heap[k]? = w1.heap[k]?) (hm : Moved w1 v v') :
    Bld (w2.setCell ⟨b, 1, none⟩ v') b (cs1.setIfInBounds 1 v') e te v' l' ∧ BldStep w0 b cs v (w2.setCell ⟨b, 1, none⟩ v') (cs1.setIfInBounds 1 v') v' := by
  have hlt := h.lt
  have h1 : 1 < cs1.size := (Array.getElem?_eq_some_iff.1 h.c1).1
  have hb2 : w2.heap[b]? = some (.cells cs1 e (0, 0)) := by rw [hg5 b hlt (fun e => h.ne e.symm)]; exact h.blk
  have hne : v'.ownBlock ≠ some b := by
    rcases hm with hm | ⟨k, hk, hk'⟩
    · rw [hm]; exact h.ne
    · rw [hk]; intro hh; cases hh; omega
  have hkeep : ∀ k, v'.ownBlock = some k → (w2.setCell ⟨b, 1, none⟩ v').heap[k]? = w2.heap[k]? := fun k hk => setCell_other w2 b 1 v' k fun hh => hne (by rw [← hh]; exact hk)
  refine ⟨⟨setCell_block w2 b 1 v' hb2, ?_, by simp [h1], buf_keep hown hkeep, hne⟩, ⟨by simpa using hs, fun j hj => ?_, ?_, hg2.trans ho1, hg3.trans ho2, hg4.trans ho3, ?_, fun k hk hkb hkv => ?_⟩⟩
  · rw [Array.getElem?_setIfInBounds_ne (by decide)]; exact h.c0
  · rw [Array.getElem?_setIfInBounds_ne (by omega)]; exact hr j hj
  · rcases hm with hm | ⟨k, hk, hk'⟩
    · exact .inl hm
    · exact .inr ⟨k, hk, by omega⟩
  · have : (w2.setCell ⟨b, 1, none⟩ v').heap.size = w2.heap.size := by simp
    omega
  · rw [setCell_other w2 b 1 v' k hkb, hg5 k (by omega) hkv]; exact hoth k hkb


/-- A text is read, its head frozen. -/
theorem ownsF_froze {w : World} {te : TypeId} {g n cap : Nat} {xs : List Value} (h : w.ownsRowF 0 te 1 (.slice (some ⟨g, 0, none⟩) n cap) n xs) : (w.freeze ⟨g, 0, none⟩ n).ownsRowF 0 te 1 (.slice (some ⟨g, 0, none⟩) n cap) n xs := by
  unfold World.freeze
  split
  · exact h
  · refine ⟨h.1, ?_⟩
    rcases h.2 with ⟨hv, _⟩ | ⟨g', cap', cur, fz, hv, hbg, hg, hfz, rest⟩
    · cases hv
    · injection hv with ha _ hcap
      injection ha with ha
      injection ha with hgg _ _
      subst hgg hcap
      obtain ⟨lo, hi⟩ := fz
      refine .inr ⟨g, _, cur, (if lo == hi then (0, 0 + n) else (min lo 0, max hi (0 + n))), rfl, hbg, ?_, ?_, rest⟩
      · simp [Array.getElem?_modify, hg]
      · simp only at hfz
        split <;> simp <;> omega

theorem freeze_other (w : World) (a : Addr) (n k : Nat) (h : k ≠ a.block) : (w.freeze a n).heap[k]? = w.heap[k]? := by
  unfold World.freeze
  split
  · rfl
  · simp only [Array.getElem?_modify]; rw [if_neg (by omega)]
theorem freeze_misc (w : World) (a : Addr) (n : Nat) : (w.freeze a n).os = w.os ∧ (w.freeze a n).output = w.output ∧ (w.freeze a n).tape = w.tape ∧ (w.freeze a n).heap.size = w.heap.size := by
  unfold World.freeze
  split <;> simp

/-- A builder is read. -/
theorem Bld.read {w w' : World} {b : Nat} {cs : Array Value} {e te : TypeId} {v : Value} {l : List UInt8} (h : Bld w b cs e te v l) (ho1 : w'.os = w.os) (ho2 : w'.output = w.output) (ho3 : w'.tape = w.tape) (hsz : w.heap.size ≤ w'.heap.size)
    (hoth : ∀ k, k < w.heap.size → some k ≠ v.ownBlock → w'.heap[k]? = w.heap[k]?) (hown : w'.ownsRowF 0 te 1 v l.length (Lib.byteCells l)) :
    Bld w' b cs e te v l ∧ BldStep w b cs v w' cs v :=
  ⟨⟨by rw [hoth b h.lt (fun e => h.ne e.symm)]; exact h.blk, h.c0, h.c1, hown, h.ne⟩, rfl, fun _ _ => rfl, .inl rfl, ho1, ho2, ho3, hsz, fun k hk _ hv => hoth k hk hv⟩


theorem args_get {w : World} {g : Gh} {n : Nat} {args : List AV} {vs : Array Value} (h : argsOk w g n args vs) : Reps w g n args vs.toList :=
  Reps.of_get (by simpa using h.1) fun i a v ha hv => by
    obtain ⟨u, h1, h2, _⟩ := h.2 i a ha
    rw [Array.getElem?_toList] at hv
    rw [h1] at hv; cases hv; exact h2

theorem args_ref {w : World} {g : Gh} {n id : Nat} {vs : Array Value} (h : argsOk w g n [.ref id 0] vs) : vs = #[.pointer (some ⟨g.loc id, 0, none⟩)] := by
  have h1 := args_get h
  obtain ⟨v, rest, e1, h2, h3⟩ := Reps.cons.1 h1
  rw [Reps.nil.1 h3] at e1
  simp only [Rep] at h2
  rw [h2.1] at e1
  exact Array.ext' e1

theorem args_ref_lit {w : World} {g : Gh} {n id : Nat} {x : Value} {vs : Array Value} (h : argsOk w g n [.ref id 0, .lit x] vs) : vs = #[.pointer (some ⟨g.loc id, 0, none⟩), x] := by
  have h1 := args_get h
  obtain ⟨v, rest, e1, h2, h3⟩ := Reps.cons.1 h1
  obtain ⟨v', rest', e2, h4, h5⟩ := Reps.cons.1 h3
  rw [Reps.nil.1 h5] at e2
  simp only [Rep] at h2 h4
  rw [e2, h2.1, h4] at e1
  exact Array.ext' e1

end Go.Abs
