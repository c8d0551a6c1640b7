/- ShapeDeep, for every type and number: the law's function returns true; the rows' condition on the listed variables is tied to the program's text. -/
import Derived.Test.YthhhpaifelgcpaaDoorS08Row
import Derived.Test.YthhhpaifelgcpaaDoorS08Wz
import Derived.ChangeSlices
import Derived.Carry
import Derived.Test.YthhhpaifelgcpaaDoorTie
import Derived.Test.YthhhpaifelgcpaaDoorCards
set_option linter.all false
namespace Go.Proofs.YthhhpaifelgcpaaDoor
open Go.ChangeShapes Go.WideShapes Go.ChangeAt Go.RowKit

theorem ty_struct : ∃ fs, Tryd.prog.underlying 29 = some (.struct fs) := by
  have h := Go.Abs.Fr.sTy
  unfold Go.Abs.Fr.fieldsIs at h
  split at h
  · rename_i fs hfs; exact ⟨_, hfs⟩
  · cases h
set_option maxRecDepth 100000 in
/-- A type, as it is read, stands for one. -/
theorem ty_args {H : Type} {enc : TypeId × Value → H} {W : World} {base : Nat} {v : Value} {d : DataW H} {ps : List MemPlace} (hval : Value.okWide Tryd.prog W .any base 29 v) (h : DataW.Trod enc Tryd.prog W 0 (fun _ => true) true 29 v d ps)
    (hw : (d.weights Tryd.prog 29).all (· ≤ reachBytes) = true) :
    ∃ l : Go.Abs.Fr.Ty, Go.Abs.Fr.mxT l ≤ 2 ^ 48 ∧ Go.Abs.Rep W (Go.Abs.Gh.all W) 0 (Go.Abs.Fr.tyv l) v := by
  obtain ⟨fuel, hf⟩ := h
  obtain ⟨a, ha, v', hv', hr⟩ := (Go.Abs.Fr.rd_all fuel).1.1 _ _ hf hw
  refine ⟨a, Nat.le_trans ha (by unfold reachBytes; decide), ?_⟩
  obtain ⟨fs, hfs⟩ := ty_struct
  obtain ⟨cs, rfl, -⟩ := okWide_struct hfs hval
  have hr' := hr
  rw [Go.Abs.Fr.tyv_eq] at hr'; simp only [Go.Abs.Rep] at hr'
  obtain ⟨vs, rfl, -⟩ := hr'
  have he : vs = cs := Array.toList_inj.1 hv'
  rw [← he]; exact hr
set_option maxRecDepth 100000 in
theorem deep_lifted (os : Os) (started : os.Started) (H : Type) (enc : TypeId × Value → H) :
    ReturnsInHanded {} Tryd.checked os 3 .any (fun w args => (Rows.shapeDeepSpec.pre enc Tryd.prog Tryd.f3 Rows.shapeDeepRow.domain false w args ∧ laidMet Tryd.prog lst w) ∧ sizedMet enc Tryd.prog Tryd.f3 (OpenSpec.ofChange Rows.shapeDeepSpec) false w args)
      (Rows.shapeDeepSpec.post enc Tryd.prog Tryd.f3 false true false false) := by
  refine returnsInHanded_of_change_and (C := Tryd.checked) (X := fun w _ => laidMet Tryd.prog lst w) (fun _ _ _ hh h => h.of_heap hh) Tryd.own started (by kernel_rfl) Tryd.func3
    (ChangeSpec.witness_at (enc := enc) (C := Tryd.checked) (os := os) (X := fun w _ => laidMet Tryd.prog lst w) false (laidWorld os) #[.agg #[.int .i64 0, .string ⟨#[]⟩, .int .i64 0, .int .i64 0, .int .i64 0, .bool false, .bool false, .slice none 0 0, .bool false, .string ⟨#[]⟩, .slice none 0 0, .slice none 0 0, .slice none 0 0, .slice none 0 0, .slice none 0 0], .int .i64 0] 8 rfl (by kernel_rfl) (by kernel_rfl) (by kernel_rfl) (by kernel_rfl) (by kernel_rfl) (laidWorld_met os _)) ?_
  intro W base args ds gs before hval0 hW _ hwt hL _
  have hval : ∀ (j : Nat) t v, Tryd.f3.params[j]? = some t → args[j]? = some v → Value.okWide Tryd.prog W .any base t v := hval0
  have hW' := hW
  obtain ⟨p, q, hA0, hV, rfl, _, _⟩ := hW
  have hA : DataW.TrodAll enc Tryd.prog W 0 (fun _ => true) true Tryd.f3.params.toList args.toList ds p := hA0
  have hwt2 : (DataW.weightsEach Tryd.prog (Tryd.f3.params.toList ++ Rows.shapeDeepSpec.plain.varTypes Tryd.prog) (ds ++ gs)).all (· ≤ reachBytes) = true := hwt
  rw [Tryd.params3] at hA hval hwt2
  obtain ⟨v0, v1, d0, d1, p0, p1, rfl, rfl, rfl, h0, h1⟩ := trodAll_two hA
  obtain ⟨rfl, rfl⟩ := trodVars_none hV
  have hv := hval 0 29 v0 rfl rfl
  obtain ⟨n, rfl, rfl, rfl, wn⟩ := open_int Go.Abs.Fr.u3 (hval 1 3 v1 rfl rfl) h1
  clear hA0 hval0
  simp only [List.append_nil] at hW'
  have hlt : ∀ x ∈ p0, x.block < W.heap.size := fun x hx => by simpa using hW'.lt x hx
  obtain ⟨l, hmx, hr⟩ := ty_args hv h0 (Go.Abs.weightsEach_get hwt2 (i := 0) rfl rfl)
  refine ((Go.Abs.Fr.deep_law l n hmx []).calls Tryd.func3 (by kernel_rfl) (c := (Tryd.f3.body).getD .skip) (by kernel_rfl) (glOk_of_laid hL) (argsOk2 hr (fun _ => by rw [Go.Abs.Fr.tyv_eq]; exact trivial) (Go.Abs.Rep.lit_iff.2 rfl) fun _ => trivial)).mono fun e W' h => ?_
  obtain ⟨⟨x, g', rfl, hr⟩, hb⟩ := h
  obtain rfl := Go.Abs.Rep.lit_iff.1 hr
  refine ⟨_, rfl, _, _, _, [], p0, [], hW', ?_, ?_, rfl, hb.frame _, fun h => by cases h⟩
  · exact trodAll_mk1 (shut_bool (show Tryd.prog.underlying 4 = some .bool from Go.Abs.Fr.u4) true)
  · have := trodAll_mk2 (Below.trod Tryd.laidOut (by kernel_rfl) (of_decide_eq_true (by kernel_rfl)) h0 hb hlt) (shut_int (show Tryd.prog.underlying 3 = some (.int .i64) from Go.Abs.Fr.u3) wn)
    rw [List.append_nil] at this
    exact this

theorem deep_holds : Rows.ShapeDeepSaid :=
  OpenClaim.holds_of_wide 3 Tryd.f3 rfl rfl rfl rfl rfl rfl rfl ⟨rfl, rfl, rfl, rfl, rfl⟩ rfl rfl rfl rfl rfl (by kernel_rfl) Tryd.func3 (by kernel_rfl)
    (of_decide_eq_true (by kernel_rfl)) (by unfold Func.isWrapper; first | (rw [if_pos (by decide +kernel)]; kernel_rfl) | (rw [if_neg (by decide +kernel)]; exact ⟨rfl, rfl⟩))
    (fun os started H enc _ => deep_lifted os started H enc)

theorem deep_card : Rows.ShapeDeepCardSaid :=
  Claim7.holds_tied_plain_at .later [] [.data, .data, .data, .data, .pinned] true (true, "a985500303843a91dc2e6052acaba38c981e6f2f9964facb44eff31d7bd0377a") false
    deep_holds (fun _ h => by cases h) (by kernel_rfl) (fun _ h => by cases h) shapeDeep_row_tie rfl ⟨rfl, rfl⟩ (by kernel_rfl) rfl
    (fun f fn hf hfn => by
      obtain rfl : f = 3 := Option.some.inj ((show Tryd.prog.funcNamed "spandrel/spandrellaw08.ShapeDeep" = some 3 by kernel_rfl).symm.trans hf) |>.symm
      obtain rfl : fn = Tryd.f3 := (Option.some.inj (Tryd.func3.symm.trans hfn)).symm
      exact ⟨by kernel_rfl, fun j t ht => by
        rw [Tryd.params3] at ht
        have h3 : t = 29 ∨ t = 3 := by
          rcases j with _ | _ | j
          · exact .inl (by simpa using ht.symm)
          · exact .inr (by simpa using ht.symm)
          · simp at ht
        rcases h3 with rfl | rfl
        · exact (show Tryd.prog.wantsStandIn 29 = false by kernel_rfl)
        · exact (show Tryd.prog.wantsStandIn 3 = false by kernel_rfl)⟩)
    (by kernel_rfl)
#print axioms deep_card
end Go.Proofs.YthhhpaifelgcpaaDoor
