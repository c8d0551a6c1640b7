/- The value operations, put together. -/
import Derived.Laws.StructEq
import Derived.Test.YtloimemacnjpgaaGreatAbsB
set_option linter.all false
namespace Go.Abs
open Go Go.RowKit

variable {P : Program} {w : World} {g : Gh} {h : List AObj} {ρ : Operand → Value} {ev : Operand → AV} {K : AV → Prop}

theorem Els.slice {n : Nat} {es : List AV} {b off k : Nat} (he : Els w g n es b off k) (l u : Nat) : Els w g n ((es.take u).drop l) b (off + l * k) k :=
  Els.of_get fun i e hi => by
    rw [List.getElem?_drop, List.getElem?_take] at hi
    split at hi
    · obtain ⟨v, h1, h2, h3⟩ := he.get _ e hi
      exact ⟨v, h1, h2, by rw [Nat.add_mul, ← Nat.add_assoc] at h3; exact h3⟩
    · cases hi

theorem bounds_run {b : Bool} {len cap : Nat} {lo hi : Option Value} {l u : Int} (hl : (lo = none ∧ l = 0) ∨ ∃ k, lo = some (.int k l)) (hu : (hi = none ∧ u = len) ∨ ∃ k, hi = some (.int k u))
    (h0 : 0 ≤ l) (h1 : l ≤ u) (h2 : u ≤ len) (h3 : len ≤ cap) : (Instr.sliceBounds b len cap lo hi none).run P w = .ok (l.toNat, u.toNat, cap) w := by
  have e1 : ∀ (k : IntKind) code, (Instr.sliceBound (.int k u) cap code).run P w = .ok u.toNat w := fun k code => run_sliceBound w k u cap code (by omega) (by omega)
  have e2 : ∀ (k : IntKind) code, (Instr.sliceBound (.int k l) u.toNat code).run P w = .ok l.toNat w := fun k code => run_sliceBound w k l u.toNat code (by omega) (by omega)
  rcases hl with ⟨rfl, rfl⟩ | ⟨k, rfl⟩ <;> rcases hu with ⟨rfl, rfl⟩ | ⟨k', rfl⟩ <;>
    simp_all [Instr.sliceBounds]

theorem bounds_run2 {b : Bool} {len cap : Nat} {lo hi : Option Value} {l u : Int} (hl : (lo = none ∧ l = 0) ∨ ∃ k, lo = some (.int k l)) (hu : (hi = none ∧ u = len) ∨ ∃ k, hi = some (.int k u))
    (h0 : 0 ≤ l) (h1 : l ≤ u) (h2 : u ≤ cap) : (Instr.sliceBounds b len cap lo hi none).run P w = .ok (l.toNat, u.toNat, cap) w := by
  have e1 : ∀ (k : IntKind) code, (Instr.sliceBound (.int k u) cap code).run P w = .ok u.toNat w := fun k code => run_sliceBound w k u cap code (by omega) (by omega)
  have e2 : ∀ (k : IntKind) code, (Instr.sliceBound (.int k l) u.toNat code).run P w = .ok l.toNat w := fun k code => run_sliceBound w k l u.toNat code (by omega) (by omega)
  rcases hl with ⟨rfl, rfl⟩ | ⟨k, rfl⟩ <;> rcases hu with ⟨rfl, rfl⟩ | ⟨k', rfl⟩ <;>
    simp_all [Instr.sliceBounds]
theorem bounds_run3 {len cap : Nat} {lo hi : Option Value} {mv : Value} {l u m : Int} (hl : (lo = none ∧ l = 0) ∨ ∃ k, lo = some (.int k l)) (hu : ∃ k, hi = some (.int k u)) (hm : ∃ k, mv = .int k m)
    (h0 : 0 ≤ l) (h1 : l ≤ u) (h2 : u ≤ m) (h3 : m ≤ cap) : (Instr.sliceBounds true len cap lo hi (some mv)).run P w = .ok (l.toNat, u.toNat, m.toNat) w := by
  obtain ⟨k3, rfl⟩ := hm
  obtain ⟨k2, rfl⟩ := hu
  have e0 : ∀ code, (Instr.sliceBound (.int k3 m) cap code).run P w = .ok m.toNat w := fun code => run_sliceBound w k3 m cap code (by omega) (by omega)
  have e1 : ∀ code, (Instr.sliceBound (.int k2 u) m.toNat code).run P w = .ok u.toNat w := fun code => run_sliceBound w k2 u m.toNat code (by omega) (by omega)
  have e2 : ∀ (k : IntKind) code, (Instr.sliceBound (.int k l) u.toNat code).run P w = .ok l.toNat w := fun k code => run_sliceBound w k l u.toNat code (by omega) (by omega)
  rcases hl with ⟨rfl, rfl⟩ | ⟨k, rfl⟩ <;> simp [Instr.sliceBounds, e0, e1, e2]

theorem opt_bound {lo : Option Operand} {l : Int} {dflt : Int} (hev : ∀ x, Rep w g h.length (ev x) (ρ x))
    (hl : match lo with | none => l = dflt | some y => ∃ k, ev y = .lit (.int k l)) : (lo.map ρ = none ∧ l = dflt) ∨ ∃ k, lo.map ρ = some (.int k l) := by
  cases lo with
  | none => exact .inl ⟨rfl, hl⟩
  | some o =>
    obtain ⟨k, hk⟩ := hl
    have := hev o
    rw [hk, Rep.lit_iff] at this
    exact .inr ⟨k, by simp [this]⟩

theorem sound_slice {t e : TypeId} {inf : TypeInfo} {x : Operand} {lo hi : Option Operand} (hu : P.underlying t = some (.slice e)) (hi' : P.info? e = some inf)
    (hev : ∀ x, Rep w g h.length (ev x) (ρ x)) (hv : vop h ev (.slice inf.size x lo hi) K) :
    VOk P w g h.length (do pure (.value (← Instr.sliceAt t (ρ x) (lo.map ρ) (hi.map ρ) none))) K := by
  have hx := hev x
  simp only [vop] at hv
  split at hv
  · rename_i c es e1
    obtain ⟨l, u, hl, hu', h0, h1, h2, hsz, hv⟩ := hv
    rw [e1] at hx
    simp only [Rep] at hx
    obtain ⟨base, len, cap, hp, hlen, hcap, hfull, hnone, hsome⟩ := hx
    rw [hp]
    have hb : (Instr.sliceBounds true len cap (lo.map ρ) (hi.map ρ) none).run P w = .ok (l.toNat, u.toNat, cap) w :=
      bounds_run (opt_bound hev hl) (opt_bound (dflt := len) hev (by rw [← hlen]; exact hu')) h0 h1 (by omega) hcap
    have hca : capAft c es = .unk ∨ (capAft c es = .full ∧ c = .full ∧ es = []) := by
      unfold capAft; split
      · exact .inr ⟨rfl, rfl, rfl⟩
      · exact .inl rfl
    refine VOk.of (v := .slice (if cap = l.toNat then base else base.map (·.add (l.toNat * inf.size))) (u.toNat - l.toNat) (cap - l.toNat)) ?_ ?_ (by rcases hca with h | ⟨h, _⟩ <;> rw [h] <;> exact ⟨(fun _ _ h => by cases h), (fun _ h => by cases h), (fun _ _ h => by cases h)⟩) hv
    · simp only [Instr.sliceAt, Sem.run_bind, run_und hu, Result.andThen_ok, Instr.slice, hb, run_siz hi', Sem.run_pure]
    · simp only [Rep]
      refine ⟨_, _, _, rfl, by simp; omega, by omega, ?_, ?_, ?_⟩
      · intro hh
        rcases hca with h | ⟨_, h1, h2⟩
        · rw [h] at hh; cases hh
        · subst h2
          have := hfull h1
          simp only [List.length_nil] at hlen h2
          have h2' : u ≤ 0 := by simpa using h2
          omega
      · intro hb0
        split at hb0
        · have := hnone hb0; omega
        · cases base with
          | none => have := hnone rfl; omega
          | some a => simp at hb0
      · intro a ha
        split at ha
        · rename_i hcl
          subst ha
          obtain ⟨h3, _⟩ := hsome a rfl
          refine ⟨fun h => h3 (by omega), 0, ?_⟩
          have : (es.take u.toNat).drop l.toNat = [] := by
            apply List.drop_eq_nil_of_le
            simp; omega
          rw [this]; simp [Els]
        · cases base with
          | none => simp at ha
          | some a0 =>
            obtain ⟨h3, k, h4⟩ := hsome a0 rfl
            obtain ⟨b, off, spot⟩ := a0
            simp only at h3 h4
            have h3 := h3 (by omega)
            subst h3
            simp [addr_add] at ha
            subst ha
            refine ⟨fun _ => rfl, k, ?_⟩
            rcases hsz with rfl | hsz
            · simpa using h4.slice 0 u.toNat
            · cases es with
              | nil => simp [Els]
              | cons e0 es0 =>
                have hk : k = inf.size := by
                  obtain ⟨v, h5, h6, _⟩ := h4.get 0 e0 (by simp)
                  obtain ⟨h7, h8⟩ := hsz e0 (by simp)
                  have := (h5.cells h7).length
                  simp at this; omega
                subst hk
                exact h4.slice l.toNat u.toNat
  · rename_i id off len cap e1
    obtain ⟨l, u, hl, hu', h0, h1, h2, hv⟩ := hv
    rw [e1] at hx
    simp only [Rep] at hx
    obtain ⟨hp, hid, hlc⟩ := hx
    rw [hp]
    have hb : (Instr.sliceBounds true len cap (lo.map ρ) (hi.map ρ) none).run P w = .ok (l.toNat, u.toNat, cap) w :=
      bounds_run2 (opt_bound hev hl) (opt_bound (dflt := len) hev hu') h0 h1 h2
    refine VOk.of (v := .slice (some ⟨g.loc id, offAt off inf.size cap l.toNat, none⟩) (u.toNat - l.toNat) (cap - l.toNat)) ?_ ?_ ⟨(fun _ _ h => by cases h), (fun _ h => by cases h), (fun _ _ h => by cases h)⟩ hv
    · simp only [Instr.sliceAt, Sem.run_bind, run_und hu, Result.andThen_ok, Instr.slice, hb, run_siz hi', Sem.run_pure, offAt, Option.map_some, addr_add, eq_comm (a := l.toNat)]
      split <;> rfl
    · simp only [Rep]
      exact ⟨trivial, hid, by omega⟩
  · exact hv.elim

theorem sound_slice3 {t e : TypeId} {inf : TypeInfo} {x mx : Operand} {lo hi : Option Operand} (hu : P.underlying t = some (.slice e)) (hi' : P.info? e = some inf)
    (hev : ∀ x, Rep w g h.length (ev x) (ρ x)) (hv : vop h ev (.slice3 inf.size x lo hi mx) K) :
    VOk P w g h.length (do pure (.value (← Instr.sliceAt t (ρ x) (lo.map ρ) (hi.map ρ) (some (ρ mx))))) K := by
  have hx := hev x
  simp only [vop] at hv
  split at hv
  · rename_i c es e1
    obtain ⟨l, u, m, hl, hu', ⟨km, hm⟩, h0, h1, h2, h3, hsz, hv⟩ := hv
    subst h2
    rw [e1] at hx
    simp only [Rep] at hx
    obtain ⟨base, len, cap, hp, hlen, hcap, _, hnone, hsome⟩ := hx
    rw [hp]
    have hmr := hev mx
    rw [hm, Rep.lit_iff] at hmr
    cases hi with
    | none => exact hu'.elim
    | some y =>
    have hb : (Instr.sliceBounds true len cap (lo.map ρ) ((some y).map ρ) (some (ρ mx))).run P w = .ok (l.toNat, u.toNat, u.toNat) w :=
      bounds_run3 (opt_bound hev hl) (by
        obtain ⟨k, hk⟩ := hu'
        have := hev y
        rw [hk, Rep.lit_iff] at this
        exact ⟨k, by simp [this]⟩) ⟨km, hmr⟩ h0 h1 (Int.le_refl _) (by omega)
    refine VOk.of (v := .slice (if u.toNat = l.toNat then base else base.map (·.add (l.toNat * inf.size))) (u.toNat - l.toNat) (u.toNat - l.toNat)) ?_ ?_ ⟨(fun _ _ h => by cases h), (fun _ h => by cases h), (fun _ _ h => by cases h)⟩ hv
    · simp only [Instr.sliceAt, Sem.run_bind, run_und hu, Result.andThen_ok, Instr.slice, hb, run_siz hi', Sem.run_pure]
    · simp only [Rep]
      refine ⟨_, _, _, rfl, by simp; omega, by omega, (fun _ => rfl), ?_, ?_⟩
      · intro hb0
        split at hb0
        · omega
        · cases base with
          | none => have := hnone rfl; omega
          | some a => simp at hb0
      · intro a ha
        split at ha
        · rename_i hcl
          refine ⟨fun h => absurd h (by omega), 0, ?_⟩
          have : (es.take u.toNat).drop l.toNat = [] := by
            apply List.drop_eq_nil_of_le
            simp; omega
          rw [this]; simp [Els]
        · cases base with
          | none => simp at ha
          | some a0 =>
            obtain ⟨h4, k, h5⟩ := hsome a0 rfl
            obtain ⟨b, off, spot⟩ := a0
            simp only at h4 h5
            have h4 := h4 (by omega)
            subst h4
            simp [addr_add] at ha
            subst ha
            refine ⟨fun _ => rfl, k, ?_⟩
            cases es with
            | nil => simp [Els]
            | cons e0 es0 =>
              have hk : k = inf.size := by
                obtain ⟨v, h5, h6, _⟩ := h5.get 0 e0 (by simp)
                obtain ⟨h7, h8⟩ := hsz e0 (by simp)
                have := (h5.cells h7).length
                simp at this; omega
              subst hk
              exact h5.slice l.toNat u.toNat
  · exact hv.elim

theorem sound_typeAssert {x : Operand} {xt t : TypeId} {ok : Bool} {inf : TypeInfo} {z : Value} {d : TypeDesc} (hu : P.underlying t = some d) (hd : ∀ m, d ≠ .interface m) (hi : P.info? t = some inf) (hz : inf.zero = some z)
    (hev : ∀ x, Rep w g h.length (ev x) (ρ x)) (hv : vop h ev (.typeAssert t (ofConst z) x ok) K) : VOk P w g h.length (do pure (.value (← Instr.typeAssert (ρ x) xt t ok))) K := by
  have hx := hev x
  have hzr : (zeroValue t).run P w = .ok z w := by simp [zeroValue, run_inf hi, hz]
  have ntup : ∀ v : List AV, NoOwn (.tup v) := fun v => ⟨(fun _ _ h => by cases h), (fun _ h => by cases h), (fun _ _ h => by cases h)⟩
  simp only [vop] at hv
  split at hv
  · rename_i t' v e1
    rw [e1] at hx
    simp only [Rep] at hx
    obtain ⟨y, hy, hr⟩ := hx
    split at hv
    · rename_i htt
      subst htt
      cases ok with
      | true =>
        refine VOk.of (v := .tuple #[y, .bool true]) ?_ ?_ (ntup _) hv
        · rw [hy]; simp only [Instr.typeAssert, Sem.run_bind, run_und hu, Result.andThen_ok]
          cases d <;> first | (exact absurd rfl (hd _)) | simp
        · simp only [Rep]; exact ⟨_, rfl, by simpa [Reps, Rep] using hr.strip⟩
      | false =>
        refine VOk.of (v := y) ?_ hr.strip (NoOwn.strip _) hv
        rw [hy]; simp only [Instr.typeAssert, Sem.run_bind, run_und hu, Result.andThen_ok]
        cases d <;> first | (exact absurd rfl (hd _)) | simp
    · rename_i htt
      obtain ⟨rfl, hv⟩ := hv
      refine VOk.of (v := .tuple #[z, .bool false]) ?_ ?_ (ntup _) hv
      · rw [hy]; simp only [Instr.typeAssert, Sem.run_bind, run_und hu, Result.andThen_ok]
        cases d <;> first | (exact absurd rfl (hd _)) | simp [htt, hzr]
      · simp only [Rep]; exact ⟨_, rfl, by simpa [Reps, Rep] using ofConst_rep z⟩
  · rename_i e1
    rw [e1, Rep.lit_iff] at hx
    obtain ⟨rfl, hv⟩ := hv
    refine VOk.of (v := .tuple #[z, .bool false]) ?_ ?_ (ntup _) hv
    · rw [hx]; simp only [Instr.typeAssert, Sem.run_bind, run_und hu, Result.andThen_ok]
      cases d <;> first | (exact absurd rfl (hd _)) | simp [hzr]
    · simp only [Rep]; exact ⟨_, rfl, by simpa [Reps, Rep] using ofConst_rep z⟩
  · exact hv.elim

theorem sound_sliceS {t : TypeId} {x : Operand} {lo hi : Option Operand} (hu : P.underlying t = some .string)
    (hev : ∀ x, Rep w g h.length (ev x) (ρ x)) (hv : vop h ev (.sliceS x lo hi) K) :
    VOk P w g h.length (do pure (.value (← Instr.sliceAt t (ρ x) (lo.map ρ) (hi.map ρ) none))) K := by
  have hx := hev x
  simp only [vop] at hv
  split at hv
  · rename_i s e1
    obtain ⟨l, u, hl, hu', h0, h1, h2, hv⟩ := hv
    rw [e1, Rep.lit_iff] at hx
    rw [hx]
    have hb : (Instr.sliceBounds false s.size s.size (lo.map ρ) (hi.map ρ) none).run P w = .ok (l.toNat, u.toNat, s.size) w :=
      bounds_run (opt_bound hev hl) (opt_bound (dflt := s.size) hev hu') h0 h1 h2 (Nat.le_refl _)
    refine VOk.of ?_ (Rep.lit_iff.2 rfl) (NoOwn.lit _) hv
    simp [Instr.sliceAt, run_und hu, Instr.slice, hb]
  · exact hv.elim

theorem sound_eqB {t : TypeId} (ht : isBool P t = true) {neg : Bool} {x y : Operand} {pos} {after} {guard} {dst} {type} {ty} {op : BinOp} (hop : op = if neg then .neq else .eql)
    (hev : ∀ x, Rep w g h.length (ev x) (ρ x)) (hv : vop h ev (.eqB neg x y) K) :
    VOk P w g h.length (execOp ρ { dst, op := .binOp op t x y ty, type, pos, after, guard }) K := by
  have hx := hev x
  have hy := hev y
  simp only [vop] at hv
  split at hv
  · rename_i a b e1 e2
    rw [e1, Rep.lit_iff] at hx
    rw [e2, Rep.lit_iff] at hy
    refine ⟨_, _, ?_, Rep.lit_iff.2 rfl, NoOwn.lit _, hv⟩
    cases neg <;> simp only [Bool.false_eq_true, if_false, if_true] at hop <;> subst hop <;> simp [execOp, hx, hy, eqGuard, binOp, wp_eqB ht]
  · exact hv.elim

theorem sound_eqN {t : TypeId} {kind : Nat} {neg : Bool} {x y : Operand} (ht : nilKind P t (isCon x || isCon y) = some kind) {pos} {after} {guard} {dst} {type} {ty} {op : BinOp} (hop : op = if neg then .neq else .eql)
    (hev : ∀ x, Rep w g h.length (ev x) (ρ x)) (hv : vop h ev (.eqN neg kind x y) K) :
    VOk P w g h.length (execOp ρ { dst, op := .binOp op t x y ty, type, pos, after, guard }) K := by
  have main : ∀ a b, nilness kind (ev x) = some a → nilness kind (ev y) = some b → (a = true ∨ b = true) → K (.lit (.bool (xor neg (a && b)))) →
      VOk P w g h.length (execOp ρ { dst, op := .binOp op t x y ty, type, pos, after, guard }) K := by
    intro a b ha hb hab hk
    obtain ⟨h1, h2, h3⟩ := eqN_sound (P := P) ht ha hb hab (hev x) (hev y)
    have hg : (eqGuard op t x y (ρ x) (ρ y)).run P w = .ok () w := by
      unfold eqGuard
      cases neg <;> simp only [Bool.false_eq_true, if_false, if_true] at hop <;> subst hop <;> simp only [Bool.not_true, Bool.false_eq_true, if_false]
      all_goals
        split
        · rename_i hu hv'
          have hc := h2 hu hv'
          rw [if_pos]
          · rfl
          · unfold isCon at hc
            cases x <;> cases y <;> simp_all
        · rename_i hu hv'; exact absurd hu (h3 _)
        · rfl
    have hbo : (binOp op t (ρ x) (ρ y)).run P w = .ok (.bool (xor neg (a && b))) w := by
      have hne : ∀ k n, ρ x ≠ .int k n := by
        intro k n hh
        have hr := hev x
        rw [hh] at hr
        unfold nilKind at ht
        split at ht <;> simp at ht
        · subst ht; rcases nil0 ha hr with ⟨_, h⟩ | ⟨_, _, h⟩ <;> cases h
        · subst ht; rcases nil1 ha hr with ⟨_, h⟩ | ⟨_, _, _, _, h⟩ <;> cases h
        · obtain ⟨_, rfl⟩ := ht; rcases nil2 ha hr with ⟨_, h⟩ | ⟨_, _, _, h⟩ <;> cases h
        · subst ht; obtain ⟨_, h⟩ := nil3 ha hr; cases h
      have hns : ∀ s, ρ x ≠ .string s := by
        intro s hh
        have hr := hev x
        rw [hh] at hr
        unfold nilKind at ht
        split at ht <;> simp at ht
        · subst ht; rcases nil0 ha hr with ⟨_, h⟩ | ⟨_, _, h⟩ <;> cases h
        · subst ht; rcases nil1 ha hr with ⟨_, h⟩ | ⟨_, _, _, _, h⟩ <;> cases h
        · obtain ⟨_, rfl⟩ := ht; rcases nil2 ha hr with ⟨_, h⟩ | ⟨_, _, _, h⟩ <;> cases h
        · subst ht; obtain ⟨_, h⟩ := nil3 ha hr; cases h
      have hnf : ∀ k n, ρ x ≠ .float k n := by
        intro s n hh
        have hr := hev x
        rw [hh] at hr
        unfold nilKind at ht
        split at ht <;> simp at ht
        · subst ht; rcases nil0 ha hr with ⟨_, h⟩ | ⟨_, _, h⟩ <;> cases h
        · subst ht; rcases nil1 ha hr with ⟨_, h⟩ | ⟨_, _, _, _, h⟩ <;> cases h
        · obtain ⟨_, rfl⟩ := ht; rcases nil2 ha hr with ⟨_, h⟩ | ⟨_, _, _, h⟩ <;> cases h
        · subst ht; obtain ⟨_, h⟩ := nil3 ha hr; cases h
      have hnc : ∀ k n m, ρ x ≠ .complex k n m := by
        intro s n m hh
        have hr := hev x
        rw [hh] at hr
        unfold nilKind at ht
        split at ht <;> simp at ht
        · subst ht; rcases nil0 ha hr with ⟨_, h⟩ | ⟨_, _, h⟩ <;> cases h
        · subst ht; rcases nil1 ha hr with ⟨_, h⟩ | ⟨_, _, _, _, h⟩ <;> cases h
        · obtain ⟨_, rfl⟩ := ht; rcases nil2 ha hr with ⟨_, h⟩ | ⟨_, _, _, h⟩ <;> cases h
        · subst ht; obtain ⟨_, h⟩ := nil3 ha hr; cases h
      revert h1 hne hns hnf hnc
      generalize ρ x = u
      generalize ρ y = v
      intro h1 hne hns hnf hnc
      cases neg <;> simp only [Bool.false_eq_true, if_false, if_true] at hop <;> subst hop
      all_goals
        unfold binOp
        cases u <;> simp_all
    exact ⟨_, _, by simp [execOp, hg, hbo], Rep.lit_iff.2 rfl, NoOwn.lit _, hk⟩
  simp only [vop] at hv
  split at hv
  · rename_i b e1 e2
    exact main true b e1 e2 (.inl rfl) (by simpa using hv)
  · rename_i e1 e2
    exact main false true e1 e2 (.inr rfl) (by simpa using hv)
  · exact hv.elim

theorem eqKind_spec {t : TypeId} {k : Nat} (hk : eqKind P t = some k) : aggN P t = some none ∧ ((k = 0 ∧ P.underlying t = some .bool) ∨ (k = 1 ∧ ∃ q, P.underlying t = some (.int q)) ∨ (k = 2 ∧ P.underlying t = some .string)) := by
  unfold eqKind at hk
  unfold aggN
  split at hk <;> cases hk
  · rename_i h1 h2; exact ⟨by simp only [h1, h2], .inl ⟨rfl, h1⟩⟩
  · rename_i h1 h2; exact ⟨by simp only [h1, h2], .inr (.inl ⟨rfl, _, h1⟩)⟩
  · rename_i h1 h2; exact ⟨by simp only [h1, h2], .inr (.inr ⟨rfl, h1⟩)⟩

theorem eqFields_run {n : Nat} {xs ys : Array Value} : ∀ (fs : List Field) (i : Nat) (ks : List Nat) (cs ds : List AV) (b : Bool), eqKindsL P i fs = some ks → eqCells ks cs ds = some b →
    Reps w g n cs (xs.toList.drop i) → Reps w g n ds (ys.toList.drop i) → (Op.eqFields 9999 xs ys fs).run P w = .ok b w
  | [], i, ks, cs, ds, b, hk, hc, hx, hy => by
    simp only [eqKindsL, Option.some.injEq] at hk
    subst hk
    cases cs <;> cases ds <;> simp [eqCells] at hc
    subst hc
    simp [Op.eqFields]
  | f :: fs, i, ks, cs, ds, b, hk, hc, hx, hy => by
    simp only [eqKindsL] at hk
    split at hk
    · rename_i hf
      obtain ⟨hf1, hf2⟩ := hf
      split at hk
      · rename_i k ks' h1 h2
        cases hk
        obtain ⟨ha, hty⟩ := eqKind_spec h1
        have step : ∀ (c d : AV) (cs' ds' : List AV) (u v : Value) (e r : Bool), cs = c :: cs' → ds = d :: ds' → (∀ x, Rep w g n c x → x = u) → (∀ x, Rep w g n d x → x = v) →
            (Op.equalIn 9999 f.type u v).run P w = .ok e w → eqCells ks' cs' ds' = some r → b = (e && r) → (Op.eqFields 9999 xs ys (f :: fs)).run P w = .ok b w := by
          intro c d cs' ds' u v e r h3 h4 h5 h6 h7 h8 h9
          subst h3 h4
          obtain ⟨u', ru, e1, e2, e3⟩ := Reps.cons.1 hx
          obtain ⟨v', rv, e4, e5, e6⟩ := Reps.cons.1 hy
          have := h5 _ e2; subst this
          have := h6 _ e5; subst this
          have hxi : xs[i]? = some u' := by
            have := congrArg (·[0]?) e1
            simpa using this
          have hyi : ys[i]? = some v' := by
            have := congrArg (·[0]?) e4
            simpa using this
          have hx' : Reps w g n cs' (xs.toList.drop (i + 1)) := by
            have : xs.toList.drop (i + 1) = ru := by rw [← List.drop_drop (i := 1), e1]; rfl
            rw [this]; exact e3
          have hy' : Reps w g n ds' (ys.toList.drop (i + 1)) := by
            have : ys.toList.drop (i + 1) = rv := by rw [← List.drop_drop (i := 1), e4]; rfl
            rw [this]; exact e6
          have ih := eqFields_run fs (i + 1) ks' cs' ds' r h2 h8 hx' hy'
          subst h9
          rw [← hf2] at hxi hyi
          simp only [Op.eqFields, if_pos hf1, Sem.run_bind, part_none ha hxi, part_none ha hyi, Result.andThen_ok, h7]
          cases e
          · simp
          · simpa using ih
        unfold eqCells at hc
        split at hc
        · exact absurd (by assumption) (List.cons_ne_nil k ks')
        · rename_i ks0 a as a' bs hk'
          split at hc
          · rename_i r hr
            cases hc
            cases hk'
            rcases hty with ⟨_, hty⟩ | ⟨h0, _⟩ | ⟨h0, _⟩
            · exact step _ _ _ _ (.bool a) (.bool a') (decide (a = a')) r rfl rfl (fun x hx => by simpa [Rep] using hx) (fun x hx => by simpa [Rep] using hx) (by rw [run_equalIn_bool' w 9998 _ _ _ hty]; cases a <;> cases a' <;> rfl) hr rfl
            · cases h0
            · cases h0
          · cases hc
        · rename_i ks0 k a as k' a' bs hk'
          split at hc
          · rename_i hkk
            subst hkk
            split at hc
            · rename_i r hr
              cases hc
              cases hk'
              rcases hty with ⟨h0, _⟩ | ⟨_, q, hty⟩ | ⟨h0, _⟩
              · cases h0
              · exact step _ _ _ _ (.int k a) (.int k a') (decide (a = a')) r rfl rfl (fun x hx => by simpa [Rep] using hx) (fun x hx => by simpa [Rep] using hx) (by rw [run_equalIn_int w 9998 _ k q _ _ hty]; rfl) hr rfl
              · cases h0
            · cases hc
          · cases hc
        · rename_i ks0 a as a' bs hk'
          split at hc
          · rename_i r hr
            cases hc
            cases hk'
            rcases hty with ⟨h0, _⟩ | ⟨h0, _⟩ | ⟨_, hty⟩
            · cases h0
            · cases h0
            · exact step _ _ _ _ (.string a) (.string a') (decide (a = a')) r rfl rfl (fun x hx => by simpa [Rep] using hx) (fun x hx => by simpa [Rep] using hx) (by rw [run_equalIn_string w 9998 _ _ _ hty, string_eq]) hr rfl
          · cases hc
        · cases hc
      · cases hk
    · cases hk

theorem sound_eqS {t : TypeId} {ks : List Nat} {neg : Bool} {x y : Operand} (ht : eqKinds P t = some ks) {pos} {after} {guard} {dst} {type} {ty} {op : BinOp} (hop : op = if neg then .neq else .eql)
    (hev : ∀ x, Rep w g h.length (ev x) (ρ x)) (hv : vop h ev (.eqS neg ks x y) K) :
    VOk P w g h.length (execOp ρ { dst, op := .binOp op t x y ty, type, pos, after, guard }) K := by
  have hx := hev x
  have hy := hev y
  simp only [vop] at hv
  split at hv
  · rename_i cs ds e1 e2
    split at hv
    · rename_i b hb
      rw [e1] at hx
      rw [e2] at hy
      simp only [Rep] at hx hy
      obtain ⟨xs, hx1, hx2⟩ := hx
      obtain ⟨ys, hy1, hy2⟩ := hy
      unfold eqKinds at ht
      split at ht
      · rename_i fs hu
        split at ht
        · rename_i hh
          have hfs : P.fieldsOf t = fs := by simp [Program.fieldsOf, hu]
          have hrun := eqFields_run (w := w) (g := g) (n := h.length) (xs := xs) (ys := ys) fs.toList 0 ks cs ds b ht hb (by simpa using hx2) (by simpa using hy2)
          have heq : (Op.equalIn 10000 t (.agg xs) (.agg ys)).run P w = .ok b w := by
            rw [run_equalIn_struct w 9999 t xs ys (by rw [hfs]; exact hu) hh.1, hfs]; exact hrun
          refine ⟨_, _, ?_, Rep.lit_iff.2 rfl, NoOwn.lit _, hv⟩
          cases neg <;> simp only [Bool.false_eq_true, if_false, if_true] at hop <;> subst hop
          · simp [execOp, hx1, hy1, run_eqGuard_agg w .eql t x y xs ys hh.2, run_eql_struct, heq]
          · simp [execOp, hx1, hy1, run_eqGuard_agg w .neq t x y xs ys hh.2, run_neq_struct, heq]
        · cases ht
      · cases ht
    · exact hv.elim
  · exact hv.elim

end Go.Abs

namespace Go.Abs
open Go Go.RowKit

variable {P : Program} {w : World} {g : Gh} {h : List AObj} {ρ : Operand → Value} {ev : Operand → AV} {K : AV → Prop}

theorem keyIs_str {x : Value} (h : keyIs .str x = true) : ∃ s, x = .string s := by
  cases x <;> simp [keyIs] at h
  exact ⟨_, rfl⟩
theorem keyIs_int {k : IntKind} {x : Value} (h : keyIs (.int k) x = true) : ∃ s, x = .int k s := by
  cases x <;> simp [keyIs] at h
  subst h
  exact ⟨_, rfl⟩
theorem keyIs_ints {n : Nat} {x : Value} (h : keyIs (.ints n) x = true) : ∃ cs : Array Value, x = .agg cs ∧ cs.size = n ∧ cs.toList.all isI64 = true := by
  cases x <;> simp only [keyIs, Bool.and_eq_true, decide_eq_true_eq, Bool.false_eq_true] at h
  exact ⟨_, rfl, h⟩
theorem isI64_spec {x : Value} (h : isI64 x = true) : ∃ n, x = .int .i64 n := by
  cases x <;> simp [isI64] at h
  rename_i k n
  cases k <;> simp at h
  exact ⟨n, rfl⟩

theorem isI64T_spec {t : TypeId} (h : isI64T P t = true) : P.underlying t = some (.int .i64) := by
  unfold isI64T at h
  split at h
  · assumption
  · cases h

theorem eqFields_i64 {xs ys : Array Value} : ∀ (fs : List Field) (i : Nat), fieldsI64 P i fs = true → (xs.toList.drop i).all isI64 = true → (ys.toList.drop i).all isI64 = true →
    (xs.toList.drop i).length = fs.length → (ys.toList.drop i).length = fs.length → (Op.eqFields 9999 xs ys fs).run P w = .ok (sameInts (xs.toList.drop i) (ys.toList.drop i)) w
  | [], i, _, _, _, hx, hy => by
    rw [List.length_eq_zero_iff.1 hx, List.length_eq_zero_iff.1 hy]
    simp [Op.eqFields, sameInts]
  | f :: fs, i, hf, ax, ay, hx, hy => by
    simp only [fieldsI64, Bool.and_eq_true, decide_eq_true_eq] at hf
    obtain ⟨⟨⟨⟨h1, h2⟩, h3⟩, h4⟩, h5⟩ := hf
    replace h3 := isI64T_spec h3
    have hxl : i < xs.toList.length := by rw [List.length_drop] at hx; simp at hx; simp; omega
    have hyl : i < ys.toList.length := by rw [List.length_drop] at hy; simp at hy; simp; omega
    rw [List.drop_eq_getElem_cons hxl] at ax hx ⊢
    rw [List.drop_eq_getElem_cons hyl] at ay hy ⊢
    simp only [List.all_cons, Bool.and_eq_true] at ax ay
    obtain ⟨a, ea⟩ := isI64_spec ax.1
    obtain ⟨b, eb⟩ := isI64_spec ay.1
    have ih := eqFields_i64 fs (i + 1) h5 ax.2 ay.2 (by simpa using hx) (by simpa using hy)
    have hxi : xs[f.offset]? = some (.int .i64 a) := by rw [h2, ← ea]; simp only [Array.getElem_toList]; exact Array.getElem?_eq_getElem _
    have hyi : ys[f.offset]? = some (.int .i64 b) := by rw [h2, ← eb]; simp only [Array.getElem_toList]; exact Array.getElem?_eq_getElem _
    have hag : aggN P f.type = some none := by unfold aggN; rw [h3]; cases hq : P.info? f.type with
      | none => rw [hq] at h4; cases h4
      | some i => rfl
    rw [ea, eb]
    simp only [Op.eqFields, if_pos h1, Sem.run_bind, part_none hag hxi, part_none hag hyi, Result.andThen_ok, run_equalIn_int w 9998 _ .i64 .i64 _ _ h3, sameInts]
    by_cases hab : a = b
    · subst hab; simpa using ih
    · simp [hab]

theorem checkKey_i64 {xs : Array Value} {em : Bool} {n : Nat} : ∀ (fs : List Field) (i : Nat), fieldsI64 P i fs = true → (xs.toList.drop i).all isI64 = true → (xs.toList.drop i).length = fs.length →
    (forIn fs PUnit.unit (fun (f : Field) (_ : PUnit) => (if f.name ≠ "_" then do Instr.checkKey em (n + 1) f.type (← part f.type xs f.offset); pure (ForInStep.yield PUnit.unit) else pure (ForInStep.yield PUnit.unit) : Sem (ForInStep PUnit)))).run P w = .ok () w
  | [], i, _, _, _ => by simp
  | f :: fs, i, hf, ax, hx => by
    simp only [fieldsI64, Bool.and_eq_true, decide_eq_true_eq] at hf
    obtain ⟨⟨⟨⟨h1, h2⟩, h3⟩, h4⟩, h5⟩ := hf
    replace h3 := isI64T_spec h3
    have hxl : i < xs.toList.length := by rw [List.length_drop] at hx; simp at hx; simp; omega
    rw [List.drop_eq_getElem_cons hxl] at ax hx
    simp only [List.all_cons, Bool.and_eq_true] at ax
    obtain ⟨a, ea⟩ := isI64_spec ax.1
    have ih := checkKey_i64 (em := em) (n := n) fs (i + 1) h5 ax.2 (by simpa using hx)
    have hxi : xs[f.offset]? = some (.int .i64 a) := by rw [h2, ← ea]; simp only [Array.getElem_toList]; exact Array.getElem?_eq_getElem _
    have hag : aggN P f.type = some none := by unfold aggN; rw [h3]; cases hq : P.info? f.type with
      | none => rw [hq] at h4; cases h4
      | some i => rfl
    simp only [List.forIn_cons, if_pos h1, Sem.run_bind, part_none hag hxi, Result.andThen_ok, Instr.checkKey, run_und h3, Sem.run_pure]
    exact ih

theorem checkKey_run {kt : TypeId} {kk : KK} {key : Value} (hk : kkOf P kt = some kk) (hi : keyIs kk key = true) (em : Bool) : (Instr.checkKey em 10000 kt key).run P w = .ok () w := by
  unfold kkOf at hk
  split at hk
  · rename_i hu; cases hk
    obtain ⟨s, rfl⟩ := keyIs_str hi
    rw [show (10000 : Nat) = 9999 + 1 from rfl, Instr.checkKey]
    simp only [Sem.run_bind, run_und hu, Result.andThen_ok, Sem.run_pure]
  · rename_i q hu; cases hk
    obtain ⟨s, rfl⟩ := keyIs_int hi
    rw [show (10000 : Nat) = 9999 + 1 from rfl, Instr.checkKey]
    simp only [Sem.run_bind, run_und hu, Result.andThen_ok, Sem.run_pure]
  · rename_i fs hu
    split at hk
    · rename_i hh; cases hk
      obtain ⟨cs, rfl, h1, h2⟩ := keyIs_ints hi
      have := checkKey_i64 (w := w) (em := em) (n := 9998) (xs := cs) fs.toList 0 hh.2 (by simpa using h2) (by simpa using h1)
      rw [show (10000 : Nat) = 9999 + 1 from rfl, Instr.checkKey]
      simp only [Sem.run_bind, run_und hu, Result.andThen_ok]
      rw [← Array.forIn_toList]
      exact (congrArg (fun r => Result.andThen r _) this).trans rfl
    · cases hk
  · cases hk

theorem sameInts_eq : ∀ {l r : List Value}, l.all isI64 = true → r.all isI64 = true → sameInts l r = true → l = r
  | [], [], _, _, _ => rfl
  | [], b :: r, _, hr, h => by
    simp only [List.all_cons, Bool.and_eq_true] at hr
    obtain ⟨n, rfl⟩ := isI64_spec hr.1
    simp [sameInts] at h
  | a :: l, [], hl, _, h => by
    simp only [List.all_cons, Bool.and_eq_true] at hl
    obtain ⟨n, rfl⟩ := isI64_spec hl.1
    simp [sameInts] at h
  | a :: l, b :: r, hl, hr, h => by
    simp only [List.all_cons, Bool.and_eq_true] at hl hr
    obtain ⟨n, rfl⟩ := isI64_spec hl.1
    obtain ⟨m, rfl⟩ := isI64_spec hr.1
    simp only [sameInts, Bool.and_eq_true, decide_eq_true_eq] at h
    rw [h.1, sameInts_eq hl.2 hr.2 h.2]

theorem sameKey_eq {kk : KK} {x y : Value} (hx : keyIs kk x = true) (hy : keyIs kk y = true) (h : sameKey x y = true) : x = y := by
  cases kk with
  | str => obtain ⟨s, rfl⟩ := keyIs_str hx; obtain ⟨t, rfl⟩ := keyIs_str hy; simpa [sameKey] using h
  | int k => obtain ⟨s, rfl⟩ := keyIs_int hx; obtain ⟨t, rfl⟩ := keyIs_int hy; simpa [sameKey] using h
  | ints n =>
    obtain ⟨cs, rfl, -, h2⟩ := keyIs_ints hx
    obtain ⟨ds, rfl, -, h3⟩ := keyIs_ints hy
    rw [Array.toList_inj.1 (sameInts_eq h2 h3 h)]

def mfind (k : Value) : List MapEntry → Nat → Option (Nat × Value)
  | [], _ => none
  | e :: es, i => if sameKey k e.key then some (i, e.val) else mfind k es (i + 1)

theorem findNow_str {s : ByteArray} : ∀ (l : List MapEntry) (i : Nat), (∀ x, x ∈ l → keyIs .str x.key = true) → Instr.findNow .string (.string s) l i = some (mfind (.string s) l i)
  | [], i, _ => rfl
  | e :: es, i, h => by
    obtain ⟨t, ht⟩ := keyIs_str (h e (by simp))
    have ih := findNow_str (s := s) es (i + 1) fun x hx => h x (by simp [hx])
    have hb : (s == t) = decide (s = t) := by
      obtain ⟨x⟩ := s
      obtain ⟨y⟩ := t
      by_cases hxy : x = y
      · subst hxy; simp; show (x == x) = true; simp
      · rw [decide_eq_false (by simpa using hxy)]; show (x == y) = false; simpa using hxy
    simp only [Instr.findNow, mfind, ht, Instr.sameNow, sameKey, hb]
    by_cases hst : s = t
    · simp [hst]
    · simp [hst, ih]
theorem findNow_int {k : IntKind} {s : Int} : ∀ (l : List MapEntry) (i : Nat), (∀ x, x ∈ l → keyIs (.int k) x.key = true) → Instr.findNow (.int k) (.int k s) l i = some (mfind (.int k s) l i)
  | [], i, _ => rfl
  | e :: es, i, h => by
    obtain ⟨t, ht⟩ := keyIs_int (h e (by simp))
    have ih := findNow_int (s := s) es (i + 1) fun x hx => h x (by simp [hx])
    simp only [Instr.findNow, mfind, ht, Instr.sameNow, sameKey, if_true]
    by_cases hst : s = t
    · simp [hst]
    · have : (s == t) = false := by simpa using hst
      simp [hst, this, ih]
theorem findAsking_ints {kt : TypeId} {fs : Array Field} (hu : P.underlying kt = some (.struct fs)) (hs : P.stoodInHeld kt = false) (hf : fieldsI64 P 0 fs.toList = true) {cs : Array Value} (h1 : cs.size = fs.size) (h2 : cs.toList.all isI64 = true) :
    ∀ (l : List MapEntry) (i : Nat), (∀ x, x ∈ l → keyIs (.ints fs.size) x.key = true) → (Instr.findAsking kt (.agg cs) l i).run P w = .ok (mfind (.agg cs) l i) w
  | [], i, _ => by simp [Instr.findAsking, mfind]
  | e :: es, i, h => by
    obtain ⟨ds, hd, h3, h4⟩ := keyIs_ints (h e (by simp))
    have ih := findAsking_ints hu hs hf h1 h2 es (i + 1) fun x hx => h x (by simp [hx])
    have hfs : P.fieldsOf kt = fs := by simp [Program.fieldsOf, hu]
    have hrun := eqFields_i64 (w := w) (xs := cs) (ys := ds) fs.toList 0 hf (by simpa using h2) (by simpa using h4) (by simpa using h1) (by simpa using h3)
    have heq : (Op.equal kt (.agg cs) (.agg ds)).run P w = .ok (sameInts cs.toList ds.toList) w := by
      show (Op.equalIn 10000 kt (.agg cs) (.agg ds)).run P w = _
      rw [run_equalIn_struct w 9999 kt cs ds (by rw [hfs]; exact hu) hs, hfs]; simpa using hrun
    simp only [Instr.findAsking, hd, Sem.run_bind, heq, Result.andThen_ok, mfind, sameKey]
    cases hq : sameInts cs.toList ds.toList
    · simpa using ih
    · simp

theorem findKey_run {kt : TypeId} {kk : KK} {key : Value} {l : List MapEntry} (hk : kkOf P kt = some kk) (hi : keyIs kk key = true) (hl : ∀ x, x ∈ l → keyIs kk x.key = true) : (Instr.findKey kt key l).run P w = .ok (mfind key l 0) w := by
  unfold kkOf at hk
  split at hk
  · rename_i hu; cases hk
    obtain ⟨s, rfl⟩ := keyIs_str hi
    simp [Instr.findKey, run_und hu, findNow_str l 0 hl]
  · rename_i q hu; cases hk
    obtain ⟨s, rfl⟩ := keyIs_int hi
    simp [Instr.findKey, run_und hu, findNow_int l 0 hl]
  · rename_i fs hu
    split at hk
    · rename_i hh; cases hk
      obtain ⟨cs, rfl, h1, h2⟩ := keyIs_ints hi
      have ha := findAsking_ints (w := w) hu hh.1 hh.2 h1 h2 l 0 hl
      cases l with
      | nil => simp [Instr.findKey, run_und hu, Instr.findNow, mfind]
      | cons e es => simpa [Instr.findKey, run_und hu, Instr.findNow, Instr.sameNow] using ha
    · cases hk
  · cases hk

theorem mfind_mix {n : Nat} : ∀ (en : List MapEntry) (es : List (Value × AV)) (key : Value) (i : Nat), en.map (·.key) = es.map (·.1) → Reps w g n (es.map (·.2)) (en.map (·.val)) →
    match mix es key with
    | some j => ∃ e v, en[j]? = some e ∧ mfind key en i = some (i + j, e.val) ∧ es[j]? = some v ∧ v.1 = e.key ∧ Rep w g n v.2 e.val ∧ sameKey key e.key = true
    | none => mfind key en i = none
  | [], [], key, i, _, _ => by simp [mix, mfind]
  | [], _ :: _, key, i, h, _ => by simp at h
  | _ :: _, [], key, i, h, _ => by simp at h
  | e :: en, p :: es, key, i, h, hr => by
    simp only [List.map_cons, List.cons.injEq] at h
    simp only [List.map_cons] at hr
    obtain ⟨hr1, hr2⟩ := Reps.cons'.1 hr
    have ih := mfind_mix en es key (i + 1) h.2 hr2
    by_cases hs : sameKey key p.1 = true
    · have : mix (p :: es) key = some 0 := by simp [mix, hs]
      rw [this]
      exact ⟨e, p, rfl, by simp [mfind, h.1, hs], rfl, h.1.symm, hr1, by rw [h.1]; exact hs⟩
    · have hm : mix (p :: es) key = (mix es key).map (· + 1) := by simp [mix, hs]
      rw [hm]
      cases hq : mix es key with
      | none =>
        rw [hq] at ih
        simp only [Option.map_none]
        simp only [mfind, h.1, hs, Bool.false_eq_true, if_false]
        exact ih
      | some j =>
        rw [hq] at ih
        obtain ⟨e', v, q1, q2, q3, q4, q5, q6⟩ := ih
        simp only [Option.map_some]
        refine ⟨e', v, by simpa using q1, ?_, by simpa using q3, q4, q5, q6⟩
        simp only [mfind, h.1, hs, Bool.false_eq_true, if_false, q2]
        congr 2; omega

theorem avKey_spec {n : Nat} {kk : KK} {a : AV} {x key : Value} (h : avKey kk a = some key) (hr : Rep w g n a x) : x = key ∧ keyIs kk key = true := by
  unfold avKey at h
  split at h
  · cases h; rw [Rep.lit_iff] at hr; exact ⟨hr, rfl⟩
  · split at h
    · rename_i hk; cases h; rw [Rep.lit_iff] at hr; exact ⟨hr, by simp [keyIs, hk]⟩
    · cases h
  · rename_i m cs
    split at h
    · rename_i vs hvs
      split at h
      · rename_i hl
        cases h
        simp only [Rep] at hr
        obtain ⟨us, rfl, hr⟩ := hr
        have : ∀ (cs : List AV) (vs us : List Value), litsI64 cs = some vs → Reps w g n cs us → us = vs ∧ vs.all isI64 = true := by
          intro cs
          induction cs with
          | nil => intro vs us hv hu; simp [litsI64] at hv; simp [Reps] at hu; subst hv hu; exact ⟨rfl, rfl⟩
          | cons c cs ih =>
            intro vs us hv hu
            obtain ⟨u, rest, rfl, hu1, hu2⟩ := Reps.cons.1 hu
            unfold litsI64 at hv
            split at hv
            · rename_i h0; cases h0
            · rename_i a as he
              cases he
              split at hv
              · rename_i ws hws
                cases hv
                obtain ⟨rfl, h2⟩ := ih ws rest hws hu2
                rw [Rep.lit_iff] at hu1
                exact ⟨by rw [hu1], by simp [isI64, h2]⟩
              · cases hv
            · cases hv
        obtain ⟨h1, h2⟩ := this cs vs us.toList hvs hr
        exact ⟨by rw [← h1], by simp [keyIs, hl, h2]⟩
      · cases h
    · cases h
  · cases h

theorem zeroValue_run {t : TypeId} {i : TypeInfo} {z : Value} (hi : P.info? t = some i) (hz : i.zero = some z) : (zeroValue t).run P w = .ok z w := by
  simp [zeroValue, run_inf hi, hz]

theorem run_getObj {r : Nat} {es : Array MapEntry} {clock : Nat} (hb : w.heap[r]? = some (.map es clock)) : (getObj r).run P w = .ok (.map es clock) w := by
  simp [getObj, Sem.run, hb]
theorem ofConst_noOwn (v : Value) : NoOwn (ofConst v) := by
  simp only [ofConst]
  split
  · exact ⟨(fun _ _ h => by cases h), (fun _ h => by cases h), (fun _ _ h => by cases h)⟩
  · exact NoOwn.agg _
  · exact NoOwn.lit _
theorem NoOwn.tup (v : List AV) : NoOwn (.tup v) := ⟨(fun _ _ h => by cases h), (fun _ h => by cases h), (fun _ _ h => by cases h)⟩

theorem sound_lookup {t k e : TypeId} {kk : KK} {inf : TypeInfo} {z : Value} {ok : Bool} {x i : Operand} (hu : P.underlying t = some (.map k e)) (hk : kkOf P k = some kk) (hi : P.info? e = some inf) (hz : inf.zero = some z)
    (hev : ∀ x, Rep w g h.length (ev x) (ρ x)) (hh : HeapOk w g h) (hv : vop h ev (.lookup ok kk (ofConst z) x i) K) :
    VOk P w g h.length (do pure (.value (← Instr.lookup t (ρ x) (ρ i) ok))) K := by
  have fin : ∀ (v : Value) (av : AV) (b : Bool), (Instr.lookup t (ρ x) (ρ i) ok).run P w = .ok (if ok then .tuple #[v, .bool b] else v) w → Rep w g h.length av v → NoOwn av → K (if ok then .tup [av, .lit (.bool b)] else av) →
      VOk P w g h.length (do pure (.value (← Instr.lookup t (ρ x) (ρ i) ok))) K := by
    intro v av b h1 h2 h3 h4
    cases ok with
    | true =>
      simp only [if_true] at h1 h4
      refine VOk.of h1 ?_ (NoOwn.tup _) h4
      simp only [Rep]
      exact ⟨_, rfl, by simpa [Reps, Rep] using h2⟩
    | false => exact VOk.of h1 h2 h3 h4
  simp only [vop] at hv
  split at hv
  · rename_i id key e1 e2
    have hx := hev x
    rw [e1] at hx
    simp only [Rep] at hx
    obtain ⟨hk1, hk2⟩ := avKey_spec e2 (hev i)
    split at hv
    · rename_i kk' es hl
      obtain ⟨rfl, hv⟩ := hv
      obtain ⟨en, clock, q1, q2, q3, q4, q5, q6, q7⟩ := hh.map id _ es hl
      have hkeys : ∀ x, x ∈ en.toList → keyIs kk' x.key = true := fun x hx => by
        have : x.key ∈ es.map (·.1) := by rw [← q3]; exact List.mem_map_of_mem hx
        obtain ⟨p, hp, he⟩ := List.mem_map.1 this
        rw [← he]; exact (q5 p hp).1
      have hf := findKey_run (w := w) hk hk2 hkeys
      have hm := mfind_mix (w := w) (g := g) en.toList es key 0 q3 q4
      have hc := checkKey_run (w := w) hk hk2
      have hgo := run_getObj (P := P) q1
      unfold mget at hv
      cases hq : mix es key with
      | none =>
        rw [hq] at hv hm
        simp only at hv hm
        refine fin z (ofConst z) false ?_ (ofConst_rep _) (ofConst_noOwn _) hv
        rw [hx.1, hk1]
        simp only [Instr.lookup, Sem.run_bind, run_und hu, Result.andThen_ok, hgo, Sem.run_pure, hc, hf, hm, zeroValue_run hi hz]
      | some j =>
        rw [hq] at hv hm
        simp only at hv hm
        obtain ⟨e', p, r1, r2, r3, r4, r5, r6⟩ := hm
        rw [r3] at hv
        simp only [Option.map_some] at hv
        refine fin e'.val p.2 true ?_ r5 ?_ hv
        · rw [hx.1, hk1]
          simp only [Instr.lookup, Sem.run_bind, run_und hu, Result.andThen_ok, hgo, Sem.run_pure, hc, hf, r2]
        · rw [← (q5 p (List.mem_of_getElem? r3)).2]; exact NoOwn.strip _
    · exact hv.elim
  · rename_i key e1 e2
    have hx := hev x
    rw [e1, Rep.lit_iff] at hx
    obtain ⟨hk1, hk2⟩ := avKey_spec e2 (hev i)
    have hf := findKey_run (w := w) (l := []) hk hk2 (by simp)
    have hc := checkKey_run (w := w) hk hk2
    refine fin z (ofConst z) false ?_ (ofConst_rep _) (ofConst_noOwn _) hv
    rw [hx, hk1]
    simp only [Instr.lookup, Sem.run_bind, run_und hu, Result.andThen_ok, Sem.run_pure, hc, hf, mfind, zeroValue_run hi hz]
  · exact hv.elim
end Go.Abs
