/- The value operations, put together. -/
import Derived.Laws.StructEq
import Derived.Test.YthhhpaifelgcpaaDoorAbsB
set_option linter.all false
namespace Go.Abs
open Go Go.RowKit

variable {P : Program} {w : World} {g : Gh} {h : List AObj} {ρ : Operand → Value} {ev : Operand → AV} {K : AV → Prop}

theorem Els.slice {n : Nat} {es : List AV} {b off k : Nat} (he : Els w g n es b off k) (l u : Nat) : Els w g n ((es.take u).drop l) b (off + l * k) k :=
  Els.of_get fun i e hi => by
    rw [List.getElem?_drop, List.getElem?_take] at hi
    split at hi
    · obtain ⟨v, h1, h2, h3⟩ := he.get _ e hi
      exact ⟨v, h1, h2, by rw [Nat.add_mul, ← Nat.add_assoc] at h3; exact h3⟩
    · cases hi

theorem bounds_run {b : Bool} {len cap : Nat} {lo hi : Option Value} {l u : Int} (hl : (lo = none ∧ l = 0) ∨ ∃ k, lo = some (.int k l)) (hu : (hi = none ∧ u = len) ∨ ∃ k, hi = some (.int k u))
    (h0 : 0 ≤ l) (h1 : l ≤ u) (h2 : u ≤ len) (h3 : len ≤ cap) : (Instr.sliceBounds b len cap lo hi none).run P w = .ok (l.toNat, u.toNat, cap) w := by
  have e1 : ∀ (k : IntKind) code, (Instr.sliceBound (.int k u) cap code).run P w = .ok u.toNat w := fun k code => run_sliceBound w k u cap code (by omega) (by omega)
  have e2 : ∀ (k : IntKind) code, (Instr.sliceBound (.int k l) u.toNat code).run P w = .ok l.toNat w := fun k code => run_sliceBound w k l u.toNat code (by omega) (by omega)
  rcases hl with ⟨rfl, rfl⟩ | ⟨k, rfl⟩ <;> rcases hu with ⟨rfl, rfl⟩ | ⟨k', rfl⟩ <;>
    simp_all [Instr.sliceBounds]

theorem opt_bound {lo : Option Operand} {l : Int} {dflt : Int} (hev : ∀ x, Rep w g h.length (ev x) (ρ x))
    (hl : match lo with | none => l = dflt | some y => ∃ k, ev y = .lit (.int k l)) : (lo.map ρ = none ∧ l = dflt) ∨ ∃ k, lo.map ρ = some (.int k l) := by
  cases lo with
  | none => exact .inl ⟨rfl, hl⟩
  | some o =>
    obtain ⟨k, hk⟩ := hl
    have := hev o
    rw [hk, Rep.lit_iff] at this
    exact .inr ⟨k, by simp [this]⟩

theorem sound_slice {t e : TypeId} {inf : TypeInfo} {x : Operand} {lo hi : Option Operand} (hu : P.underlying t = some (.slice e)) (hi' : P.info? e = some inf)
    (hev : ∀ x, Rep w g h.length (ev x) (ρ x)) (hv : vop h ev (.slice inf.size x lo hi) K) :
    VOk P w g h.length (do pure (.value (← Instr.sliceAt t (ρ x) (lo.map ρ) (hi.map ρ) none))) K := by
  have hx := hev x
  simp only [vop] at hv
  split at hv
  · rename_i c es e1
    obtain ⟨l, u, hl, hu', h0, h1, h2, hsz, hv⟩ := hv
    rw [e1] at hx
    simp only [Rep] at hx
    obtain ⟨base, len, cap, hp, hlen, hcap, _, hnone, hsome⟩ := hx
    rw [hp]
    have hb : (Instr.sliceBounds true len cap (lo.map ρ) (hi.map ρ) none).run P w = .ok (l.toNat, u.toNat, cap) w :=
      bounds_run (opt_bound hev hl) (opt_bound (dflt := len) hev (by rw [← hlen]; exact hu')) h0 h1 (by omega) hcap
    refine VOk.of (v := .slice (if cap = l.toNat then base else base.map (·.add (l.toNat * inf.size))) (u.toNat - l.toNat) (cap - l.toNat)) ?_ ?_ (NoOwn.unk _) hv
    · simp only [Instr.sliceAt, Sem.run_bind, run_und hu, Result.andThen_ok, Instr.slice, hb, run_siz hi', Sem.run_pure]
    · simp only [Rep]
      refine ⟨_, _, _, rfl, by simp; omega, by omega, (fun hh => by cases hh), ?_, ?_⟩
      · intro hb0
        split at hb0
        · have := hnone hb0; omega
        · cases base with
          | none => have := hnone rfl; omega
          | some a => simp at hb0
      · intro a ha
        split at ha
        · rename_i hcl
          subst ha
          obtain ⟨h3, _⟩ := hsome a rfl
          refine ⟨fun h => h3 (by omega), 0, ?_⟩
          have : (es.take u.toNat).drop l.toNat = [] := by
            apply List.drop_eq_nil_of_le
            simp; omega
          rw [this]; simp [Els]
        · cases base with
          | none => simp at ha
          | some a0 =>
            obtain ⟨h3, k, h4⟩ := hsome a0 rfl
            obtain ⟨b, off, spot⟩ := a0
            simp only at h3 h4
            have h3 := h3 (by omega)
            subst h3
            simp [addr_add] at ha
            subst ha
            refine ⟨fun _ => rfl, k, ?_⟩
            rcases hsz with rfl | hsz
            · simpa using h4.slice 0 u.toNat
            · cases es with
              | nil => simp [Els]
              | cons e0 es0 =>
                have hk : k = inf.size := by
                  obtain ⟨v, h5, h6, _⟩ := h4.get 0 e0 (by simp)
                  obtain ⟨h7, h8⟩ := hsz e0 (by simp)
                  have := (h5.cells h7).length
                  simp at this; omega
                subst hk
                exact h4.slice l.toNat u.toNat
  · exact hv.elim

theorem sound_sliceS {t : TypeId} {x : Operand} {lo hi : Option Operand} (hu : P.underlying t = some .string)
    (hev : ∀ x, Rep w g h.length (ev x) (ρ x)) (hv : vop h ev (.sliceS x lo hi) K) :
    VOk P w g h.length (do pure (.value (← Instr.sliceAt t (ρ x) (lo.map ρ) (hi.map ρ) none))) K := by
  have hx := hev x
  simp only [vop] at hv
  split at hv
  · rename_i s e1
    obtain ⟨l, u, hl, hu', h0, h1, h2, hv⟩ := hv
    rw [e1, Rep.lit_iff] at hx
    rw [hx]
    have hb : (Instr.sliceBounds false s.size s.size (lo.map ρ) (hi.map ρ) none).run P w = .ok (l.toNat, u.toNat, s.size) w :=
      bounds_run (opt_bound hev hl) (opt_bound (dflt := s.size) hev hu') h0 h1 h2 (Nat.le_refl _)
    refine VOk.of ?_ (Rep.lit_iff.2 rfl) (NoOwn.lit _) hv
    simp [Instr.sliceAt, run_und hu, Instr.slice, hb]
  · exact hv.elim

theorem sound_eqB {t : TypeId} (ht : isBool P t = true) {neg : Bool} {x y : Operand} {pos} {after} {guard} {dst} {type} {ty} {op : BinOp} (hop : op = if neg then .neq else .eql)
    (hev : ∀ x, Rep w g h.length (ev x) (ρ x)) (hv : vop h ev (.eqB neg x y) K) :
    VOk P w g h.length (execOp ρ { dst, op := .binOp op t x y ty, type, pos, after, guard }) K := by
  have hx := hev x
  have hy := hev y
  simp only [vop] at hv
  split at hv
  · rename_i a b e1 e2
    rw [e1, Rep.lit_iff] at hx
    rw [e2, Rep.lit_iff] at hy
    refine ⟨_, _, ?_, Rep.lit_iff.2 rfl, NoOwn.lit _, hv⟩
    cases neg <;> simp only [Bool.false_eq_true, if_false, if_true] at hop <;> subst hop <;> simp [execOp, hx, hy, eqGuard, binOp, wp_eqB ht]
  · exact hv.elim

theorem sound_eqN {t : TypeId} {kind : Nat} {neg : Bool} {x y : Operand} (ht : nilKind P t (isCon x || isCon y) = some kind) {pos} {after} {guard} {dst} {type} {ty} {op : BinOp} (hop : op = if neg then .neq else .eql)
    (hev : ∀ x, Rep w g h.length (ev x) (ρ x)) (hv : vop h ev (.eqN neg kind x y) K) :
    VOk P w g h.length (execOp ρ { dst, op := .binOp op t x y ty, type, pos, after, guard }) K := by
  have main : ∀ a b, nilness kind (ev x) = some a → nilness kind (ev y) = some b → (a = true ∨ b = true) → K (.lit (.bool (xor neg (a && b)))) →
      VOk P w g h.length (execOp ρ { dst, op := .binOp op t x y ty, type, pos, after, guard }) K := by
    intro a b ha hb hab hk
    obtain ⟨h1, h2, h3⟩ := eqN_sound (P := P) ht ha hb hab (hev x) (hev y)
    have hg : (eqGuard op t x y (ρ x) (ρ y)).run P w = .ok () w := by
      unfold eqGuard
      cases neg <;> simp only [Bool.false_eq_true, if_false, if_true] at hop <;> subst hop <;> simp only [Bool.not_true, Bool.false_eq_true, if_false]
      all_goals
        split
        · rename_i hu hv'
          have hc := h2 hu hv'
          rw [if_pos]
          · rfl
          · unfold isCon at hc
            cases x <;> cases y <;> simp_all
        · rename_i hu hv'; exact absurd hu (h3 _)
        · rfl
    have hbo : (binOp op t (ρ x) (ρ y)).run P w = .ok (.bool (xor neg (a && b))) w := by
      have hne : ∀ k n, ρ x ≠ .int k n := by
        intro k n hh
        have hr := hev x
        rw [hh] at hr
        unfold nilKind at ht
        split at ht <;> simp at ht
        · subst ht; rcases nil0 ha hr with ⟨_, h⟩ | ⟨_, _, h⟩ <;> cases h
        · subst ht; rcases nil1 ha hr with ⟨_, h⟩ | ⟨_, _, _, _, h⟩ <;> cases h
        · obtain ⟨_, rfl⟩ := ht; rcases nil2 ha hr with ⟨_, h⟩ | ⟨_, _, _, h⟩ <;> cases h
        · subst ht; obtain ⟨_, h⟩ := nil3 ha hr; cases h
      have hns : ∀ s, ρ x ≠ .string s := by
        intro s hh
        have hr := hev x
        rw [hh] at hr
        unfold nilKind at ht
        split at ht <;> simp at ht
        · subst ht; rcases nil0 ha hr with ⟨_, h⟩ | ⟨_, _, h⟩ <;> cases h
        · subst ht; rcases nil1 ha hr with ⟨_, h⟩ | ⟨_, _, _, _, h⟩ <;> cases h
        · obtain ⟨_, rfl⟩ := ht; rcases nil2 ha hr with ⟨_, h⟩ | ⟨_, _, _, h⟩ <;> cases h
        · subst ht; obtain ⟨_, h⟩ := nil3 ha hr; cases h
      have hnf : ∀ k n, ρ x ≠ .float k n := by
        intro s n hh
        have hr := hev x
        rw [hh] at hr
        unfold nilKind at ht
        split at ht <;> simp at ht
        · subst ht; rcases nil0 ha hr with ⟨_, h⟩ | ⟨_, _, h⟩ <;> cases h
        · subst ht; rcases nil1 ha hr with ⟨_, h⟩ | ⟨_, _, _, _, h⟩ <;> cases h
        · obtain ⟨_, rfl⟩ := ht; rcases nil2 ha hr with ⟨_, h⟩ | ⟨_, _, _, h⟩ <;> cases h
        · subst ht; obtain ⟨_, h⟩ := nil3 ha hr; cases h
      have hnc : ∀ k n m, ρ x ≠ .complex k n m := by
        intro s n m hh
        have hr := hev x
        rw [hh] at hr
        unfold nilKind at ht
        split at ht <;> simp at ht
        · subst ht; rcases nil0 ha hr with ⟨_, h⟩ | ⟨_, _, h⟩ <;> cases h
        · subst ht; rcases nil1 ha hr with ⟨_, h⟩ | ⟨_, _, _, _, h⟩ <;> cases h
        · obtain ⟨_, rfl⟩ := ht; rcases nil2 ha hr with ⟨_, h⟩ | ⟨_, _, _, h⟩ <;> cases h
        · subst ht; obtain ⟨_, h⟩ := nil3 ha hr; cases h
      revert h1 hne hns hnf hnc
      generalize ρ x = u
      generalize ρ y = v
      intro h1 hne hns hnf hnc
      cases neg <;> simp only [Bool.false_eq_true, if_false, if_true] at hop <;> subst hop
      all_goals
        unfold binOp
        cases u <;> simp_all
    exact ⟨_, _, by simp [execOp, hg, hbo], Rep.lit_iff.2 rfl, NoOwn.lit _, hk⟩
  simp only [vop] at hv
  split at hv
  · rename_i b e1 e2
    exact main true b e1 e2 (.inl rfl) (by simpa using hv)
  · rename_i e1 e2
    exact main false true e1 e2 (.inr rfl) (by simpa using hv)
  · exact hv.elim

theorem eqKind_spec {t : TypeId} {k : Nat} (hk : eqKind P t = some k) : aggN P t = some none ∧ ((k = 0 ∧ P.underlying t = some .bool) ∨ (k = 1 ∧ ∃ q, P.underlying t = some (.int q)) ∨ (k = 2 ∧ P.underlying t = some .string)) := by
  unfold eqKind at hk
  unfold aggN
  split at hk <;> cases hk
  · rename_i h1 h2; exact ⟨by simp only [h1, h2], .inl ⟨rfl, h1⟩⟩
  · rename_i h1 h2; exact ⟨by simp only [h1, h2], .inr (.inl ⟨rfl, _, h1⟩)⟩
  · rename_i h1 h2; exact ⟨by simp only [h1, h2], .inr (.inr ⟨rfl, h1⟩)⟩

theorem eqFields_run {n : Nat} {xs ys : Array Value} : ∀ (fs : List Field) (i : Nat) (ks : List Nat) (cs ds : List AV) (b : Bool), eqKindsL P i fs = some ks → eqCells ks cs ds = some b →
    Reps w g n cs (xs.toList.drop i) → Reps w g n ds (ys.toList.drop i) → (Op.eqFields 9999 xs ys fs).run P w = .ok b w
  | [], i, ks, cs, ds, b, hk, hc, hx, hy => by
    simp only [eqKindsL, Option.some.injEq] at hk
    subst hk
    cases cs <;> cases ds <;> simp [eqCells] at hc
    subst hc
    simp [Op.eqFields]
  | f :: fs, i, ks, cs, ds, b, hk, hc, hx, hy => by
    simp only [eqKindsL] at hk
    split at hk
    · rename_i hf
      obtain ⟨hf1, hf2⟩ := hf
      split at hk
      · rename_i k ks' h1 h2
        cases hk
        obtain ⟨ha, hty⟩ := eqKind_spec h1
        have step : ∀ (c d : AV) (cs' ds' : List AV) (u v : Value) (e r : Bool), cs = c :: cs' → ds = d :: ds' → (∀ x, Rep w g n c x → x = u) → (∀ x, Rep w g n d x → x = v) →
            (Op.equalIn 9999 f.type u v).run P w = .ok e w → eqCells ks' cs' ds' = some r → b = (e && r) → (Op.eqFields 9999 xs ys (f :: fs)).run P w = .ok b w := by
          intro c d cs' ds' u v e r h3 h4 h5 h6 h7 h8 h9
          subst h3 h4
          obtain ⟨u', ru, e1, e2, e3⟩ := Reps.cons.1 hx
          obtain ⟨v', rv, e4, e5, e6⟩ := Reps.cons.1 hy
          have := h5 _ e2; subst this
          have := h6 _ e5; subst this
          have hxi : xs[i]? = some u' := by
            have := congrArg (·[0]?) e1
            simpa using this
          have hyi : ys[i]? = some v' := by
            have := congrArg (·[0]?) e4
            simpa using this
          have hx' : Reps w g n cs' (xs.toList.drop (i + 1)) := by
            have : xs.toList.drop (i + 1) = ru := by rw [← List.drop_drop (i := 1), e1]; rfl
            rw [this]; exact e3
          have hy' : Reps w g n ds' (ys.toList.drop (i + 1)) := by
            have : ys.toList.drop (i + 1) = rv := by rw [← List.drop_drop (i := 1), e4]; rfl
            rw [this]; exact e6
          have ih := eqFields_run fs (i + 1) ks' cs' ds' r h2 h8 hx' hy'
          subst h9
          rw [← hf2] at hxi hyi
          simp only [Op.eqFields, if_pos hf1, Sem.run_bind, part_none ha hxi, part_none ha hyi, Result.andThen_ok, h7]
          cases e
          · simp
          · simpa using ih
        unfold eqCells at hc
        split at hc
        · exact absurd (by assumption) (List.cons_ne_nil k ks')
        · rename_i ks0 a as a' bs hk'
          split at hc
          · rename_i r hr
            cases hc
            cases hk'
            rcases hty with ⟨_, hty⟩ | ⟨h0, _⟩ | ⟨h0, _⟩
            · exact step _ _ _ _ (.bool a) (.bool a') (decide (a = a')) r rfl rfl (fun x hx => by simpa [Rep] using hx) (fun x hx => by simpa [Rep] using hx) (by rw [run_equalIn_bool' w 9998 _ _ _ hty]; cases a <;> cases a' <;> rfl) hr rfl
            · cases h0
            · cases h0
          · cases hc
        · rename_i ks0 k a as k' a' bs hk'
          split at hc
          · rename_i hkk
            subst hkk
            split at hc
            · rename_i r hr
              cases hc
              cases hk'
              rcases hty with ⟨h0, _⟩ | ⟨_, q, hty⟩ | ⟨h0, _⟩
              · cases h0
              · exact step _ _ _ _ (.int k a) (.int k a') (decide (a = a')) r rfl rfl (fun x hx => by simpa [Rep] using hx) (fun x hx => by simpa [Rep] using hx) (by rw [run_equalIn_int w 9998 _ k q _ _ hty]; rfl) hr rfl
              · cases h0
            · cases hc
          · cases hc
        · rename_i ks0 a as a' bs hk'
          split at hc
          · rename_i r hr
            cases hc
            cases hk'
            rcases hty with ⟨h0, _⟩ | ⟨h0, _⟩ | ⟨_, hty⟩
            · cases h0
            · cases h0
            · exact step _ _ _ _ (.string a) (.string a') (decide (a = a')) r rfl rfl (fun x hx => by simpa [Rep] using hx) (fun x hx => by simpa [Rep] using hx) (by rw [run_equalIn_string w 9998 _ _ _ hty, string_eq]) hr rfl
          · cases hc
        · cases hc
      · cases hk
    · cases hk

theorem sound_eqS {t : TypeId} {ks : List Nat} {neg : Bool} {x y : Operand} (ht : eqKinds P t = some ks) {pos} {after} {guard} {dst} {type} {ty} {op : BinOp} (hop : op = if neg then .neq else .eql)
    (hev : ∀ x, Rep w g h.length (ev x) (ρ x)) (hv : vop h ev (.eqS neg ks x y) K) :
    VOk P w g h.length (execOp ρ { dst, op := .binOp op t x y ty, type, pos, after, guard }) K := by
  have hx := hev x
  have hy := hev y
  simp only [vop] at hv
  split at hv
  · rename_i cs ds e1 e2
    split at hv
    · rename_i b hb
      rw [e1] at hx
      rw [e2] at hy
      simp only [Rep] at hx hy
      obtain ⟨xs, hx1, hx2⟩ := hx
      obtain ⟨ys, hy1, hy2⟩ := hy
      unfold eqKinds at ht
      split at ht
      · rename_i fs hu
        split at ht
        · rename_i hh
          have hfs : P.fieldsOf t = fs := by simp [Program.fieldsOf, hu]
          have hrun := eqFields_run (w := w) (g := g) (n := h.length) (xs := xs) (ys := ys) fs.toList 0 ks cs ds b ht hb (by simpa using hx2) (by simpa using hy2)
          have heq : (Op.equalIn 10000 t (.agg xs) (.agg ys)).run P w = .ok b w := by
            rw [run_equalIn_struct w 9999 t xs ys (by rw [hfs]; exact hu) hh.1, hfs]; exact hrun
          refine ⟨_, _, ?_, Rep.lit_iff.2 rfl, NoOwn.lit _, hv⟩
          cases neg <;> simp only [Bool.false_eq_true, if_false, if_true] at hop <;> subst hop
          · simp [execOp, hx1, hy1, run_eqGuard_agg w .eql t x y xs ys hh.2, run_eql_struct, heq]
          · simp [execOp, hx1, hy1, run_eqGuard_agg w .neq t x y xs ys hh.2, run_neq_struct, heq]
        · cases ht
      · cases ht
    · exact hv.elim
  · exact hv.elim

end Go.Abs
