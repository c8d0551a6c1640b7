/- FragNests, for every body and number: the law's function returns true; the rows' condition on the listed variables is tied to the program's text. -/
import Derived.Test.YtgbedffflggenaaDoorFrRow
import Derived.Test.YtgbedffflggenaaDoorFrNs
import Derived.ChangeSlices
import Derived.Carry
import Derived.Test.YtgbedffflggenaaDoorTie
import Derived.Test.YtgbedffflggenaaDoorCards
set_option linter.all false
namespace Go.Proofs.YtgbedffflggenaaDoor
open Go.ChangeShapes Go.WideShapes Go.ChangeAt Go.RowKit

set_option maxRecDepth 100000 in
/-- A list of statements, as it is read, stands for one. -/
theorem stmts_args {H : Type} {enc : TypeId × Value → H} {W : World} {base : Nat} {v : Value} {d : DataW H} {ps : List MemPlace} (hval : Value.okWide Tryd.prog W .any base 29 v) (h : DataW.Trod enc Tryd.prog W 0 (fun _ => true) true 29 v d ps)
    (hw : (d.weights Tryd.prog 29).all (· ≤ reachBytes) = true) :
    ∃ l : List Go.Abs.Fr.Stmt, Go.Abs.Fr.mxL l ≤ 2 ^ 47 ∧ Go.Abs.Rep W (Go.Abs.Gh.all W) 0 (Go.Abs.Fr.bodyv l) v := by
  obtain ⟨a, len, cap, rfl⟩ := okWide_slice (show Tryd.prog.underlying 29 = some (.slice 34) from Go.Abs.Fr.u29) hval
  obtain ⟨fuel, hf⟩ := h
  obtain ⟨l, hl, hr⟩ := (Go.Abs.Fr.rd_body fuel).one (fun _ => ⟨rfl, rfl⟩) hf hw
  exact ⟨l, Nat.le_trans hl (by unfold reachBytes; decide), hr⟩

set_option maxRecDepth 100000 in
theorem nests_lifted (os : Os) (started : os.Started) (H : Type) (enc : TypeId × Value → H) :
    ReturnsInHanded {} Tryd.checked os 5 .any (fun w args => (Rows.fragNestsSpec.pre enc Tryd.prog Tryd.f5 Rows.fragNestsRow.domain false w args ∧ laidMet Tryd.prog lst w) ∧ sizedMet enc Tryd.prog Tryd.f5 (OpenSpec.ofChange Rows.fragNestsSpec) false w args)
      (Rows.fragNestsSpec.post enc Tryd.prog Tryd.f5 false true false false) := by
  refine returnsInHanded_of_change_and (C := Tryd.checked) (X := fun w _ => laidMet Tryd.prog lst w) (fun _ _ _ hh h => h.of_heap hh) Tryd.own started (by kernel_rfl) Tryd.func5
    (ChangeSpec.witness_at (enc := enc) (C := Tryd.checked) (os := os) (X := fun w _ => laidMet Tryd.prog lst w) false (laidWorld os) #[.slice none 0 0, .int .i64 0] 8 rfl (by kernel_rfl) (by kernel_rfl) (by kernel_rfl) (by kernel_rfl) (by kernel_rfl) (laidWorld_met os _)) ?_
  intro W base args ds gs before hval0 hW _ hwt hL _
  have hval : ∀ (j : Nat) t v, Tryd.f5.params[j]? = some t → args[j]? = some v → Value.okWide Tryd.prog W .any base t v := hval0
  have hW' := hW
  obtain ⟨p, q, hA0, hV, rfl, _, _⟩ := hW
  have hA : DataW.TrodAll enc Tryd.prog W 0 (fun _ => true) true Tryd.f5.params.toList args.toList ds p := hA0
  have hwt2 : (DataW.weightsEach Tryd.prog (Tryd.f5.params.toList ++ Rows.fragNestsSpec.plain.varTypes Tryd.prog) (ds ++ gs)).all (· ≤ reachBytes) = true := hwt
  rw [Tryd.params5] at hA hval hwt2
  obtain ⟨v0, v1, d0, d1, p0, p1, rfl, rfl, rfl, h0, h1⟩ := trodAll_two hA
  obtain ⟨rfl, rfl⟩ := trodVars_none hV
  have hv := hval 0 29 v0 rfl rfl
  obtain ⟨n, rfl, rfl, rfl, wn⟩ := open_int Go.Abs.Fr.u3 (hval 1 3 v1 rfl rfl) h1
  clear hA0 hval0
  simp only [List.append_nil] at hW'
  have hlt : ∀ x ∈ p0, x.block < W.heap.size := fun x hx => by simpa using hW'.lt x hx
  obtain ⟨l, hmx, hr⟩ := stmts_args hv h0 (Go.Abs.weightsEach_get hwt2 (i := 0) rfl rfl)
  refine ((Go.Abs.Fr.nests_ev l n hmx []).calls Tryd.func5 (by kernel_rfl) (c := (Tryd.f5.body).getD .skip) (by kernel_rfl) (glOk_of_laid hL) (argsOk2 hr (fun _ => trivial) (Go.Abs.Rep.lit_iff.2 rfl) fun _ => trivial)).mono fun e W' h => ?_
  obtain ⟨⟨x, g', rfl, hr⟩, hb⟩ := h
  obtain rfl := Go.Abs.Rep.lit_iff.1 hr
  refine ⟨_, rfl, _, _, _, [], p0, [], hW', ?_, ?_, rfl, hb.frame _, fun h => by cases h⟩
  · exact trodAll_mk1 (shut_bool (show Tryd.prog.underlying 4 = some .bool from Go.Abs.Fr.u4) true)
  · have := trodAll_mk2 (Below.trod Tryd.laidOut (by kernel_rfl) (of_decide_eq_true (by kernel_rfl)) h0 hb hlt) (shut_int (show Tryd.prog.underlying 3 = some (.int .i64) from Go.Abs.Fr.u3) wn)
    rw [List.append_nil] at this
    exact this

theorem nests_holds : Rows.FragNestsSaid :=
  OpenClaim.holds_of_wide 5 Tryd.f5 rfl rfl rfl rfl rfl rfl rfl ⟨rfl, rfl, rfl, rfl, rfl⟩ rfl rfl rfl rfl rfl (by kernel_rfl) Tryd.func5 (by kernel_rfl)
    (of_decide_eq_true (by kernel_rfl)) (by unfold Func.isWrapper; first | (rw [if_pos (by decide +kernel)]; kernel_rfl) | (rw [if_neg (by decide +kernel)]; exact ⟨rfl, rfl⟩))
    (fun os started H enc _ => nests_lifted os started H enc)

theorem nests_card : Rows.FragNestsCardSaid :=
  Claim7.holds_tied_plain_at .later [] [.data, .data, .data] true (true, "998b49b3e7b0252a80d018b8f53d49c44ef6b2d7f1488ae66e08bbd62dacf7ce") false
    nests_holds (fun _ h => by cases h) (by kernel_rfl) (fun _ h => by cases h) fragNests_row_tie rfl ⟨rfl, rfl⟩ (by kernel_rfl) rfl
    (fun f fn hf hfn => by
      obtain rfl : f = 5 := Option.some.inj ((show Tryd.prog.funcNamed "spandrel/spandrellaw18.FragNests" = some 5 by kernel_rfl).symm.trans hf) |>.symm
      obtain rfl : fn = Tryd.f5 := (Option.some.inj (Tryd.func5.symm.trans hfn)).symm
      exact ⟨by kernel_rfl, fun j t ht => by
        rw [Tryd.params5] at ht
        have h3 : t = 29 ∨ t = 3 := by
          rcases j with _ | _ | j
          · exact .inl (by simpa using ht.symm)
          · exact .inr (by simpa using ht.symm)
          · simp at ht
        rcases h3 with rfl | rfl
        · exact (show Tryd.prog.wantsStandIn 29 = false by kernel_rfl)
        · exact (show Tryd.prog.wantsStandIn 3 = false by kernel_rfl)⟩)
    (by kernel_rfl)
#print axioms nests_card
end Go.Proofs.YtgbedffflggenaaDoor
