/- The value operations, one by one. -/
import Derived.Test.YtenhfnadhmjloaaDoorAbsD
set_option linter.all false
namespace Go.Abs
open Go Go.RowKit

variable {P : Program} {w : World} {g : Gh} {h : List AObj} {ρ : Operand → Value} {ev : Operand → AV} {K : AV → Prop}

theorem loadCells_holds {b off : Nat} {vs : List Value} (hh : ∀ j u, vs[j]? = some u → w.cell? ⟨b, off + j, none⟩ = some u) :
    (loadCells ⟨b, off, none⟩ vs.length).run P w = .ok vs.toArray w :=
  run_loadCells_list w _ vs fun j v hv => by
    have := hh j v hv
    unfold Addr.add
    split
    · rename_i h0; subst h0; simpa using this
    · exact this

theorem cell_of_heap {b off : Nat} {vs : Array Value} {e : TypeId} {fr} (hb : w.heap[b]? = some (.cells vs e fr)) : w.cell? ⟨b, off, none⟩ = vs[off]? := by
  simp [World.cell?, hb]

/-- A load of one cell. -/
theorem load_none {t : TypeId} {x : Value} {b off : Nat} {u : Value} (hn : aggN P t = some none) (hx : x = .pointer (some ⟨b, off, none⟩))
    (hc : w.cell? ⟨b, off, none⟩ = some u) : (Instr.loadAt t x).run P w = .ok u w := by
  subst hx
  simp [Instr.loadAt, Instr.sureAddr, loadVar, (aggN_spec hn w).1, hc]

theorem load_some {t : TypeId} {x : Value} {b off k : Nat} {vs : List Value} (hn : aggN P t = some (some k)) (hx : x = .pointer (some ⟨b, off, none⟩)) (hk : vs.length = k)
    (hc : ∀ j u, vs[j]? = some u → w.cell? ⟨b, off + j, none⟩ = some u) : (Instr.loadAt t x).run P w = .ok (.agg vs.toArray) w := by
  subst hx
  obtain ⟨h1, i, hi, h2⟩ := aggN_spec hn w
  have := loadCells_holds (P := P) hc
  simp [Instr.loadAt, Instr.sureAddr, loadVar, h1, run_siz hi, h2 k rfl, ← hk, this]

theorem addr_add (b off k : Nat) : (⟨b, off, none⟩ : Addr).add k = ⟨b, off + k, none⟩ := by
  unfold Addr.add
  split
  · rename_i h; subst h; rfl
  · rfl

theorem asIntOf_int (k : IntKind) (n : Int) : (asIntOf (.int k n)).run P w = .ok (k, n) w := rfl

theorem sound_load {n : Option Nat} {t : TypeId} {x : Operand} (hn : aggN P t = some n) (hev : Rep w g h.length (ev x) (ρ x)) (hh : HeapOk w g h)
    (hv : vop h ev (.load n x) K) : VOk P w g h.length (do pure (.value (← Instr.loadAt t (ρ x)))) K := by
  simp only [vop] at hv
  split at hv
  · rename_i id off hx
    rw [hx] at hev
    simp only [Rep] at hev
    obtain ⟨hp, _⟩ := hev
    split at hv
    · rename_i l hl
      obtain ⟨vs, e, hc⟩ := hh id l hl
      cases n with
      | none =>
        simp only at hv
        split at hv
        · rename_i av hav
          obtain ⟨v, h1, h2, h3⟩ := hc.rep _ _ hav
          exact VOk.of (load_none hn hp (by rw [cell_of_heap hc.blk]; exact h1)) h2.strip (NoOwn.strip _) hv
        · exact hv.elim
      | some k =>
        simp only at hv
        obtain ⟨hle, hv⟩ := hv
        have hsz := hc.size
        have hlen : ((vs.toList.drop off).take k).length = k := by simp; omega
        refine VOk.of (load_some (vs := (vs.toList.drop off).take k) hn hp hlen ?_) ?_ (NoOwn.agg _) hv
        · intro j u hj
          rw [cell_of_heap hc.blk]
          rw [List.getElem?_take] at hj
          split at hj
          · rw [List.getElem?_drop] at hj; simpa using hj
          · cases hj
        · simp only [Rep]
          refine ⟨_, rfl, Reps.of_get (by simp; omega) fun i a v ha hvv => ?_⟩
          simp only [List.getElem?_map, List.getElem?_take, List.getElem?_drop] at ha hvv
          split at ha
          · rename_i hik
            rw [if_pos hik] at hvv
            cases hq : l[off + i]? with
            | none => rw [hq] at ha; simp at ha
            | some aa =>
              rw [hq] at ha
              simp at ha
              obtain ⟨v', h1, h2, _⟩ := hc.rep _ _ hq
              have : vs.toList[off + i]? = some v' := by simpa using h1
              rw [this] at hvv
              cases hvv
              rw [← ha]; exact h2.strip
          · simp at ha
    · exact hv.elim
  · rename_i cs hx
    rw [hx] at hev
    simp only [Rep] at hev
    obtain ⟨b, off, vs, hp, hH, hR⟩ := hev
    cases n with
    | none =>
      simp only at hv
      split at hv
      · rename_i av hav
        obtain ⟨v, h1, h2⟩ := hR.get _ _ hav
        exact VOk.of (load_none hn hp (by simpa using (hH 0 v h1).1)) h2.strip (NoOwn.strip _) hv
      · exact hv.elim
    | some k =>
      simp only at hv
      obtain ⟨hle, hv⟩ := hv
      have hl := hR.length
      refine VOk.of (load_some (vs := vs.take k) hn hp (by simp; omega) ?_) ?_ (NoOwn.agg _) hv
      · intro j u hj
        rw [List.getElem?_take] at hj
        split at hj
        · exact (hH j u hj).1
        · cases hj
      · simp only [Rep]; exact ⟨_, rfl, by simpa using hR.take k⟩
  · exact hv.elim

theorem drop_holds {b off : Nat} {vs : List Value} (hH : Holds w g b off vs) (k : Nat) : Holds w g b (off + k) (vs.drop k) := by
  intro j u hj
  rw [List.getElem?_drop] at hj
  have := hH _ u hj
  rwa [← Nat.add_assoc] at this

theorem sound_fieldAddr {s : TypeId} {x : Operand} {fields : Array Field} {f : Nat} {fd : Field} {i : TypeInfo} (hu : P.underlying s = some (.struct fields)) (hf : fields[f]? = some fd)
    (hi : P.info? fd.type = some i) (hz : i.size ≠ 0) (hev : Rep w g h.length (ev x) (ρ x)) (hv : vop h ev (.fieldAddr fd.offset x) K) :
    VOk P w g h.length (do pure (.value (← Instr.fieldAt s (ρ x) f))) K := by
  have key : ∀ b off, (Instr.fieldAt s (.pointer (some ⟨b, off, none⟩)) f).run P w = .ok (.pointer (some ⟨b, off + fd.offset, none⟩)) w := by
    intro b off
    simp only [Instr.fieldAt, Sem.run_bind, run_und hu, Result.andThen_ok, hf, Instr.sureAddr, Sem.run_pure, fieldPlace, run_siz hi, if_neg hz, addr_add]
  simp only [vop] at hv
  split at hv
  · rename_i id off hx
    rw [hx] at hev
    simp only [Rep] at hev
    obtain ⟨hp, hlt⟩ := hev
    rw [hp]
    exact VOk.of (key _ _) (by simp only [Rep]; exact ⟨trivial, hlt⟩) (NoOwn.ref _ _) hv
  · rename_i cs hx
    rw [hx] at hev
    simp only [Rep] at hev
    obtain ⟨b, off, vs, hp, hH, hR⟩ := hev
    rw [hp]
    exact VOk.of (key _ _) (by simp only [Rep]; exact ⟨b, _, _, rfl, drop_holds hH _, hR.drop _⟩) (NoOwn.cp _) hv
  · exact hv.elim

/-- A part of an aggregate. -/
theorem part_none {t : TypeId} {cs : Array Value} {off : Nat} {v : Value} (hn : aggN P t = some none) (hc : cs[off]? = some v) : (part t cs off).run P w = .ok v w := by
  simp [part, (aggN_spec hn w).1, hc]
theorem part_some {t : TypeId} {cs : Array Value} {off k : Nat} (hn : aggN P t = some (some k)) : (part t cs off).run P w = .ok (.agg (cs.extract off (off + k))) w := by
  obtain ⟨h1, i, hi, h2⟩ := aggN_spec hn w
  simp [part, h1, run_siz hi, h2 k rfl]

theorem extract_toList (cs : Array Value) (off k : Nat) : (cs.extract off (off + k)).toList = (cs.toList.drop off).take k := by
  rw [Array.toList_extract, List.extract_eq_take_drop]; congr 1; omega

theorem sound_field {s : TypeId} {x : Operand} {fields : Array Field} {f : Nat} {fd : Field} {n : Option Nat} (hu : P.underlying s = some (.struct fields)) (hf : fields[f]? = some fd)
    (hn : aggN P fd.type = some n) (hev : Rep w g h.length (ev x) (ρ x)) (hv : vop h ev (.field fd.offset n x) K) :
    VOk P w g h.length (do pure (.value (← Instr.field s (ρ x) f))) K := by
  simp only [vop] at hv
  split at hv
  · rename_i cs hx
    rw [hx] at hev
    simp only [Rep] at hev
    obtain ⟨vs, hp, hR⟩ := hev
    rw [hp]
    cases n with
    | none =>
      simp only at hv
      split at hv
      · rename_i av hav
        obtain ⟨v, h1, h2⟩ := hR.get _ _ hav
        refine VOk.of (v := v) ?_ h2.strip (NoOwn.strip _) hv
        simp only [Instr.field, Sem.run_bind, run_und hu, Result.andThen_ok, hf, asAgg, Sem.run_pure]
        exact part_none hn (by simpa using h1)
      · exact hv.elim
    | some k =>
      simp only at hv
      refine VOk.of (v := .agg (vs.extract fd.offset (fd.offset + k))) ?_ ?_ (NoOwn.agg _) hv
      · simp only [Instr.field, Sem.run_bind, run_und hu, Result.andThen_ok, hf, asAgg, Sem.run_pure]
        exact part_some hn
      · simp only [Rep]; exact ⟨_, rfl, by rw [extract_toList]; exact (hR.drop _).take _⟩
  · exact hv.elim

theorem sound_indexAddr {t e : TypeId} {x ix : Operand} {inf : TypeInfo} (hu : P.underlying t = some (.slice e)) (hi : P.info? e = some inf)
    (hev : ∀ x, Rep w g h.length (ev x) (ρ x)) (hv : vop h ev (.indexAddr inf.size x ix) K) :
    VOk P w g h.length (do pure (.value (← Instr.indexAt t (ρ x) (ρ ix)))) K := by
  have key : ∀ (b off len cap : Nat) (k : IntKind) (j : Int), 0 ≤ j → j < len → (Instr.indexAt t (.slice (some ⟨b, off, none⟩) len cap) (.int k j)).run P w = .ok (.pointer (some ⟨b, off + j.toNat * inf.size, none⟩)) w := by
    intro b off len cap k j h0 h1
    simp only [Instr.indexAt, Sem.run_bind, asIntOf_int, Result.andThen_ok, run_und hu, Sem.run_pure]
    rw [if_pos ⟨h0, h1⟩]
    simp [run_siz hi, addr_add]
  have hx := hev x
  have hy := hev ix
  simp only [vop] at hv
  split at hv
  · rename_i c es k j e1 e2
    rw [e1] at hx
    rw [e2] at hy
    simp only [Rep] at hx hy
    obtain ⟨base, len, cap, hp, hlen, hcap, _, hnone, hsome⟩ := hx
    obtain ⟨⟨h0, h1⟩, hv⟩ := hv
    have hlt : j.toNat < es.length := by omega
    obtain ⟨hs, hk, hv⟩ := hv es[j.toNat] (by simp [hlt])
    cases base with
    | none => exfalso; have := hnone rfl; omega
    | some a =>
      obtain ⟨hspot, k', hels⟩ := hsome a rfl
      obtain ⟨v, hr, hsz, hH⟩ := hels.get j.toNat es[j.toNat] (by simp [hlt])
      have hk' : k' = inf.size := by
        have := (hr.cells hs).length
        simp at this; omega
      subst hk'
      obtain ⟨b, off, spot⟩ := a
      simp only at hspot hH
      subst hspot
      rw [hp, hy]
      refine VOk.of (key b off len cap k j h0 (by omega)) ?_ (NoOwn.cp _) hv
      simp only [Rep]
      exact ⟨b, _, _, rfl, hH, hr.cells hs⟩
  · rename_i id off len cap k j e1 e2
    rw [e1] at hx
    rw [e2] at hy
    simp only [Rep] at hx hy
    obtain ⟨hp, hlt, _⟩ := hx
    obtain ⟨⟨h0, h1⟩, hv⟩ := hv
    rw [hp, hy]
    exact VOk.of (key _ _ _ _ _ _ h0 h1) (by simp only [Rep]; exact ⟨trivial, hlt⟩) (NoOwn.ref _ _) hv
  · exact hv.elim

theorem sound_indexAddrArr {t e : TypeId} {len : Nat} {x ix : Operand} {inf : TypeInfo} (hu : P.underlying t = some (.array len e)) (hi : P.info? e = some inf)
    (hev : ∀ x, Rep w g h.length (ev x) (ρ x)) (hv : vop h ev (.indexAddrArr len inf.size x ix) K) :
    VOk P w g h.length (do pure (.value (← Instr.indexAt t (ρ x) (ρ ix)))) K := by
  have key : ∀ (b off : Nat) (k : IntKind) (j : Int), 0 ≤ j → j < len → (Instr.indexAt t (.pointer (some ⟨b, off, none⟩)) (.int k j)).run P w = .ok (.pointer (some ⟨b, off + j.toNat * inf.size, none⟩)) w := by
    intro b off k j h0 h1
    simp only [Instr.indexAt, Sem.run_bind, asIntOf_int, Result.andThen_ok, run_und hu, Sem.run_pure, Instr.sureAddr]
    rw [if_pos ⟨h0, h1⟩]
    simp [run_siz hi, addr_add]
  have hx := hev x
  have hy := hev ix
  simp only [vop] at hv
  split at hv
  · rename_i id o k j e1 e2
    rw [e1] at hx
    rw [e2] at hy
    simp only [Rep] at hx hy
    obtain ⟨hp, hlt⟩ := hx
    obtain ⟨⟨h0, h1⟩, hv⟩ := hv
    rw [hp, hy]
    exact VOk.of (key _ _ _ _ h0 h1) (by simp only [Rep]; exact ⟨trivial, hlt⟩) (NoOwn.ref _ _) hv
  · rename_i cs k j e1 e2
    rw [e1] at hx
    rw [e2] at hy
    simp only [Rep] at hx hy
    obtain ⟨b, off, vs, hp, hH, hR⟩ := hx
    obtain ⟨⟨h0, h1⟩, hv⟩ := hv
    rw [hp, hy]
    exact VOk.of (key _ _ _ _ h0 h1) (by simp only [Rep]; exact ⟨b, _, _, rfl, drop_holds hH _, hR.drop _⟩) (NoOwn.cp _) hv
  · exact hv.elim

theorem sound_indexS {t : TypeId} {x ix : Operand} (hu : P.underlying t = some .string)
    (hev : ∀ x, Rep w g h.length (ev x) (ρ x)) (hv : vop h ev (.indexS x ix) K) :
    VOk P w g h.length (do pure (.value (← Instr.index t (ρ x) (ρ ix)))) K := by
  have hx := hev x
  have hy := hev ix
  simp only [vop] at hv
  split at hv
  · rename_i s k j e1 e2
    rw [e1, Rep.lit_iff] at hx
    rw [e2, Rep.lit_iff] at hy
    obtain ⟨⟨h0, h1⟩, hv⟩ := hv
    have hlt : j.toNat < s.size := by omega
    have hs : s[j.toNat]? = some s[j.toNat] := by simp [hlt]
    have hv' := hv _ hs
    rw [hx, hy]
    refine VOk.of ?_ (Rep.lit_iff.2 rfl) (NoOwn.lit _) hv'
    simp [Instr.index, asIntOf_int, run_und hu, h0, hs]
  · exact hv.elim

theorem sound_indexArr {t e : TypeId} {len : Nat} {n : Option Nat} {x ix : Operand} {inf : TypeInfo} (hu : P.underlying t = some (.array len e)) (hi : P.info? e = some inf) (hn : aggN P e = some n)
    (hev : ∀ x, Rep w g h.length (ev x) (ρ x)) (hv : vop h ev (.indexArr len inf.size n x ix) K) :
    VOk P w g h.length (do pure (.value (← Instr.index t (ρ x) (ρ ix)))) K := by
  have hx := hev x
  have hy := hev ix
  simp only [vop] at hv
  split at hv
  · rename_i cs k j e1 e2
    rw [e1] at hx
    rw [e2, Rep.lit_iff] at hy
    simp only [Rep] at hx
    obtain ⟨vs, hp, hR⟩ := hx
    obtain ⟨⟨h0, h1⟩, hv, hle, hk0⟩ := hv
    rw [hp, hy]
    have hrun : ∀ v, (part e vs (j.toNat * inf.size)).run P w = .ok v w → (Instr.index t (.agg vs) (.int k j)).run P w = .ok v w := by
      intro v hpv
      simp only [Instr.index, Sem.run_bind, asIntOf_int, Result.andThen_ok, run_und hu]
      rw [if_pos ⟨h0, h1⟩]
      simp [run_siz hi, hpv]
    cases n with
    | none =>
      simp only at hv
      have hlt : j.toNat * inf.size < cs.length := by
        have : j.toNat < len := by omega
        calc j.toNat * inf.size < len * inf.size := Nat.mul_lt_mul_of_pos_right this hk0
          _ ≤ cs.length := hle
      obtain ⟨v, h3, h4⟩ := hR.get (j.toNat * inf.size) cs[j.toNat * inf.size] (by simp [hlt])
      exact VOk.of (hrun v (part_none hn (by simpa using h3))) h4.strip (NoOwn.strip _) (hv _ (by simp [hlt]))
    | some m =>
      simp only at hv
      refine VOk.of (hrun _ (part_some hn)) ?_ (NoOwn.agg _) hv
      simp only [Rep]; exact ⟨_, rfl, by rw [extract_toList]; exact (hR.drop _).take _⟩
  · exact hv.elim

def intsOf : List AV → Option (List Int)
  | [] => some []
  | .lit (.int .u8 n) :: l => (intsOf l).map (n :: ·)
  | _ => none

theorem bites_ints : ∀ (es : List AV) (l : List UInt8), bitesOf es = some l → ∃ ns, intsOf es = some ns ∧ l = ns.map fun n => UInt8.ofNat n.toNat := by
  intro es
  induction es with
  | nil => intro l hl; simp [bitesOf] at hl; exact ⟨[], rfl, by simp [hl]⟩
  | cons e es ih =>
    intro l hl
    unfold bitesOf at hl
    split at hl
    · simp at *
    · rename_i n l' heq
      cases heq
      simp at hl
      obtain ⟨l'', hl'', rfl⟩ := hl
      obtain ⟨ns, h1, rfl⟩ := ih _ hl''
      exact ⟨n :: ns, by simp [intsOf, h1], by simp⟩
    · cases hl

theorem ints_get : ∀ (es : List AV) (ns : List Int), intsOf es = some ns → ns.length = es.length ∧ ∀ (i : Nat) (n : Int), ns[i]? = some n → es[i]? = some (.lit (.int .u8 n)) := by
  intro es
  induction es with
  | nil => intro ns hl; simp [intsOf] at hl; subst hl; simp
  | cons e es ih =>
    intro ns hl
    unfold intsOf at hl
    split at hl
    · simp at *
    · rename_i n l' heq
      cases heq
      simp at hl
      obtain ⟨ns', hl'', rfl⟩ := hl
      obtain ⟨h1, h2⟩ := ih _ hl''
      refine ⟨by simp [h1], fun i m hm => ?_⟩
      cases i with
      | zero => simp at hm; subst hm; simp
      | succ i => simp at hm ⊢; exact h2 i m hm
    · cases hl

theorem bites_load {es : List AV} {ns : List Int} {b off k : Nat} (hn : intsOf es = some ns) (he : Els w g h.length es b off k) :
    (loadCells ⟨b, off, none⟩ es.length).run P w = .ok (ns.map (Value.int .u8)).toArray w := by
  obtain ⟨h1, h2⟩ := ints_get es ns hn
  have := loadCells_holds (P := P) (w := w) (b := b) (off := off) (vs := ns.map (Value.int .u8)) ?_
  · simpa [h1] using this
  · intro j u hj
    simp at hj
    obtain ⟨n, hn', rfl⟩ := hj
    obtain ⟨v, h3, h4, h5⟩ := he.get j _ (h2 j n hn')
    rw [Rep.lit_iff] at h3
    subst h3
    simp [Value.cells] at h4
    subst h4
    have := (h5 0 (.int .u8 n) (by simp [Value.cells])).1
    simpa using this

theorem foldl_push (l : List UInt8) : ∀ (s : ByteArray), l.foldl (fun r c => r.push c) s = ⟨s.data ++ l.toArray⟩ := by
  induction l with
  | nil => intro s; simp
  | cons c l ih =>
    intro s
    simp only [List.foldl_cons, ih]
    congr 1
    simp [ByteArray.push]

theorem sound_toStr {src dst e : TypeId} {x : Operand} (h1 : P.underlying src = some (.slice e)) (h2 : P.underlying dst = some .string) (h3 : P.underlying e = some (.int .u8))
    (hev : Rep w g h.length (ev x) (ρ x)) (hv : vop h ev (.toStr x) K) : VOk P w g h.length (do pure (.value (← convert src dst (ρ x)))) K := by
  simp only [vop] at hv
  split at hv
  · rename_i c es e1
    split at hv
    · rename_i l hl
      rw [e1] at hev
      simp only [Rep] at hev
      obtain ⟨base, len, cap, hp, hlen, hcap, _, hnone, hsome⟩ := hev
      rw [hp]
      obtain ⟨ns, hns, rfl⟩ := bites_ints es l hl
      cases base with
      | none =>
        have hes : es = [] := by have := hnone rfl; exact List.length_eq_zero_iff.1 (by omega)
        subst hes
        simp [intsOf] at hns
        subst hns
        refine VOk.of ?_ (Rep.lit_iff.2 rfl) (NoOwn.lit _) hv
        simp only [convert, Sem.run_bind, run_und h1, run_und h2, run_und h3, Result.andThen_ok, Conv.bytesToString, Sem.run_pure]
        rfl
      | some a =>
        obtain ⟨hspot, k, hels⟩ := hsome a rfl
        obtain ⟨b, off, spot⟩ := a
        simp only at hspot hels
        subst hspot
        refine VOk.of ?_ (Rep.lit_iff.2 rfl) (NoOwn.lit _) hv
        have hl := bites_load (P := P) hns hels
        rw [run_convert_bytes_string w src dst e _ _ _ h1 h3 h2]
        rw [run_bytesToString w _ len cap ns (by rw [← hlen]; exact hl)]
        have := foldl_push (ns.map fun n => UInt8.ofNat n.toNat) ByteArray.empty
        rw [List.foldl_map] at this
        rw [this]
        congr 3
        simp
    · exact hv.elim
  · exact hv.elim

theorem sound_conv {src dst : TypeId} {k k' : IntKind} {x : Operand} (h1 : P.underlying src = some (.int k')) (h2 : P.underlying dst = some (.int k))
    (hev : Rep w g h.length (ev x) (ρ x)) (hv : vop h ev (.conv k x) K) : VOk P w g h.length (do pure (.value (← convert src dst (ρ x)))) K := by
  simp only [vop] at hv
  split at hv
  · rename_i k2 n e1
    rw [e1, Rep.lit_iff] at hev
    rw [hev]
    exact VOk.of (by simp [convert, run_und h1, run_und h2, Conv.intToInt]) (Rep.lit_iff.2 rfl) (NoOwn.lit _) hv
  · exact hv.elim

theorem sound_convS {src dst : TypeId} {x : Operand} (h1 : P.underlying src = some .string) (h2 : P.underlying dst = some .string)
    (hev : Rep w g h.length (ev x) (ρ x)) (hv : vop h ev (.convS x) K) : VOk P w g h.length (do pure (.value (← convert src dst (ρ x)))) K := by
  simp only [vop] at hv
  split at hv
  · rename_i s e1
    rw [e1, Rep.lit_iff] at hev
    rw [hev]
    exact VOk.of (by simp [convert, run_und h1, run_und h2]) (Rep.lit_iff.2 rfl) (NoOwn.lit _) hv
  · exact hv.elim

theorem sound_bin {op : BinOp} {t ty : TypeId} {x y : Operand} {pos} {after} {guard} {dst} {type}
    (hev : ∀ x, Rep w g h.length (ev x) (ρ x)) (hv : vop h ev (.bin op x y) K) :
    VOk P w g h.length (execOp ρ { dst, op := .binOp op t x y ty, type, pos, after, guard }) K := by
  have hx := hev x
  have hy := hev y
  simp only [vop] at hv
  split at hv
  · rename_i u v e1 e2
    rw [e1, Rep.lit_iff] at hx
    rw [e2, Rep.lit_iff] at hy
    obtain ⟨r, h1, h2, h3⟩ := binW_sound (P := P) (w := w) (t := t) hv
    refine ⟨r, .lit r, ?_, Rep.lit_iff.2 rfl, NoOwn.lit _, h2⟩
    simp [execOp, hx, hy, h1, h3]
  · exact hv.elim

theorem sound_un {op : UnOp} {x : Operand} (hev : ∀ x, Rep w g h.length (ev x) (ρ x)) (hv : vop h ev (.un op x) K) :
    VOk P w g h.length (do pure (.value (← Op.unary op (ρ x)))) K := by
  have hx := hev x
  simp only [vop] at hv
  split at hv
  · rename_i b e1; rw [e1, Rep.lit_iff] at hx; rw [hx]
    exact VOk.of (by simp [Op.unary]) (Rep.lit_iff.2 rfl) (NoOwn.lit _) hv
  · rename_i k n e1; rw [e1, Rep.lit_iff] at hx; rw [hx]
    exact VOk.of (by simp [Op.unary, Op.intArith]) (Rep.lit_iff.2 rfl) (NoOwn.lit _) hv
  · rename_i k n e1; rw [e1, Rep.lit_iff] at hx; rw [hx]
    exact VOk.of (by simp [Op.unary, ibits_run]) (Rep.lit_iff.2 rfl) (NoOwn.lit _) hv
  · exact hv.elim

end Go.Abs
