/- ShapeCons, for every constraint: the law's function returns true; the rows' condition on the listed variables is tied to the program's text. -/
import Derived.Test.YthhhpaifelgcpaaDoorS08Row
import Derived.Test.YthhhpaifelgcpaaDoorS08Wz
import Derived.ChangeSlices
import Derived.Carry
import Derived.Test.YthhhpaifelgcpaaDoorTie
import Derived.Test.YthhhpaifelgcpaaDoorCards
set_option linter.all false
namespace Go.Proofs.YthhhpaifelgcpaaDoor
open Go.ChangeShapes Go.WideShapes Go.ChangeAt Go.RowKit

theorem con_struct : ∃ fs, Tryd.prog.underlying 24 = some (.struct fs) := by
  have h := Go.Abs.Fr.sCon
  unfold Go.Abs.onesIs at h
  split at h
  · rename_i fs hfs; exact ⟨_, hfs⟩
  · cases h
set_option maxRecDepth 100000 in
/-- A constraint, as it is read, stands for one. -/
theorem con_args {H : Type} {enc : TypeId × Value → H} {W : World} {base : Nat} {v : Value} {d : DataW H} {ps : List MemPlace} (hval : Value.okWide Tryd.prog W .any base 24 v) (h : DataW.Trod enc Tryd.prog W 0 (fun _ => true) true 24 v d ps)
    (hw : (d.weights Tryd.prog 24).all (· ≤ reachBytes) = true) :
    ∃ l : Go.Abs.Fr.Con, Go.Abs.Fr.mxC l ≤ 2 ^ 48 ∧ Go.Abs.Rep W (Go.Abs.Gh.all W) 0 (Go.Abs.Fr.conv l) v := by
  obtain ⟨fuel, hf⟩ := h
  obtain ⟨a, ha, v', hv', hr⟩ := Go.Abs.Fr.rd_con fuel _ _ hf hw
  refine ⟨a, Nat.le_trans ha (by unfold reachBytes; decide), ?_⟩
  obtain ⟨fs, hfs⟩ := con_struct
  obtain ⟨cs, rfl, -⟩ := okWide_struct hfs hval
  have hr' := hr
  rw [Go.Abs.Fr.conv_eq] at hr'; simp only [Go.Abs.Rep] at hr'
  obtain ⟨vs, rfl, -⟩ := hr'
  have he : vs = cs := Array.toList_inj.1 hv'
  rw [← he]; exact hr
set_option maxRecDepth 100000 in
theorem cons_lifted (os : Os) (started : os.Started) (H : Type) (enc : TypeId × Value → H) :
    ReturnsInHanded {} Tryd.checked os 5 .any (fun w args => (Rows.shapeConsSpec.pre enc Tryd.prog Tryd.f5 Rows.shapeConsRow.domain false w args ∧ laidMet Tryd.prog lst w) ∧ sizedMet enc Tryd.prog Tryd.f5 (OpenSpec.ofChange Rows.shapeConsSpec) false w args)
      (Rows.shapeConsSpec.post enc Tryd.prog Tryd.f5 false true false false) := by
  refine returnsInHanded_of_change_and (C := Tryd.checked) (X := fun w _ => laidMet Tryd.prog lst w) (fun _ _ _ hh h => h.of_heap hh) Tryd.own started (by kernel_rfl) Tryd.func5
    (ChangeSpec.witness_at (enc := enc) (C := Tryd.checked) (os := os) (X := fun w _ => laidMet Tryd.prog lst w) false (laidWorld os) #[.agg #[.int .i64 0, .int .i64 0, .int .i64 0, .bool false, .bool false, .slice none 0 0]] 8 rfl (by kernel_rfl) (by kernel_rfl) (by kernel_rfl) (by kernel_rfl) (by kernel_rfl) (laidWorld_met os _)) ?_
  intro W base args ds gs before hval0 hW _ hwt hL _
  have hval : ∀ (j : Nat) t v, Tryd.f5.params[j]? = some t → args[j]? = some v → Value.okWide Tryd.prog W .any base t v := hval0
  have hW' := hW
  obtain ⟨p, q, hA0, hV, rfl, _, _⟩ := hW
  have hA : DataW.TrodAll enc Tryd.prog W 0 (fun _ => true) true Tryd.f5.params.toList args.toList ds p := hA0
  have hwt2 : (DataW.weightsEach Tryd.prog (Tryd.f5.params.toList ++ Rows.shapeConsSpec.plain.varTypes Tryd.prog) (ds ++ gs)).all (· ≤ reachBytes) = true := hwt
  rw [Tryd.params5] at hA hval hwt2
  obtain ⟨v0, d0, rfl, rfl, h0⟩ := trodAll_one hA
  obtain ⟨rfl, rfl⟩ := trodVars_none hV
  have hv := hval 0 24 v0 rfl rfl
  clear hA0 hval0
  simp only [List.append_nil] at hW'
  have hlt : ∀ x ∈ p, x.block < W.heap.size := fun x hx => by simpa using hW'.lt x hx
  obtain ⟨l, hmx, hr⟩ := con_args hv h0 (Go.Abs.weightsEach_get hwt2 (i := 0) rfl rfl)
  refine ((Go.Abs.Fr.cons_law l hmx []).calls Tryd.func5 (by kernel_rfl) (c := (Tryd.f5.body).getD .skip) (by kernel_rfl) (glOk_of_laid hL) (argsOk1 hr fun _ => by rw [Go.Abs.Fr.conv_eq]; exact trivial)).mono fun e W' h => ?_
  obtain ⟨⟨x, g', rfl, hr⟩, hb⟩ := h
  obtain rfl := Go.Abs.Rep.lit_iff.1 hr
  refine ⟨_, rfl, _, _, _, [], p, [], hW', ?_, ?_, rfl, hb.frame _, fun h => by cases h⟩
  · exact trodAll_mk1 (shut_bool (show Tryd.prog.underlying 4 = some .bool from Go.Abs.Fr.u4) true)
  · exact trodAll_mk1 (Below.trod Tryd.laidOut (by kernel_rfl) (of_decide_eq_true (by kernel_rfl)) h0 hb hlt)

theorem cons_holds : Rows.ShapeConsSaid :=
  OpenClaim.holds_of_wide 5 Tryd.f5 rfl rfl rfl rfl rfl rfl rfl ⟨rfl, rfl, rfl, rfl, rfl⟩ rfl rfl rfl rfl rfl (by kernel_rfl) Tryd.func5 (by kernel_rfl)
    (of_decide_eq_true (by kernel_rfl)) (by unfold Func.isWrapper; first | (rw [if_pos (by decide +kernel)]; kernel_rfl) | (rw [if_neg (by decide +kernel)]; exact ⟨rfl, rfl⟩))
    (fun os started H enc _ => cons_lifted os started H enc)

theorem cons_card : Rows.ShapeConsCardSaid :=
  Claim7.holds_tied_plain_at .later [] [.data, .data, .data, .data, .pinned] true (true, "a985500303843a91dc2e6052acaba38c981e6f2f9964facb44eff31d7bd0377a") false
    cons_holds (fun _ h => by cases h) (by kernel_rfl) (fun _ h => by cases h) shapeCons_row_tie rfl ⟨rfl, rfl⟩ (by kernel_rfl) rfl
    (fun f fn hf hfn => by
      obtain rfl : f = 5 := Option.some.inj ((show Tryd.prog.funcNamed "spandrel/spandrellaw08.ShapeCons" = some 5 by kernel_rfl).symm.trans hf) |>.symm
      obtain rfl : fn = Tryd.f5 := (Option.some.inj (Tryd.func5.symm.trans hfn)).symm
      exact ⟨by kernel_rfl, fun j t ht => by
        rw [Tryd.params5] at ht
        have h3 : t = 24 := by
          rcases j with _ | j
          · simpa using ht.symm
          · simp at ht
        subst h3
        exact (show Tryd.prog.wantsStandIn 24 = false by kernel_rfl)⟩)
    (by kernel_rfl)
#print axioms cons_card
end Go.Proofs.YthhhpaifelgcpaaDoor
