/- FragSame, for every two fragments: the law's function returns true; the rows' condition on the listed variables is tied to the program's text. -/
import Derived.Test.YtgbedffflggenaaDoorS18FrRow
import Derived.Test.YtgbedffflggenaaDoorS18FrEr
import Derived.ChangeSlices
import Derived.Carry
import Derived.Test.YtgbedffflggenaaDoorTie
import Derived.Test.YtgbedffflggenaaDoorCards
set_option linter.all false
namespace Go.Proofs.YtgbedffflggenaaDoor
open Go.ChangeShapes Go.WideShapes Go.ChangeAt Go.RowKit

set_option maxRecDepth 100000 in
theorem same_lifted (os : Os) (started : os.Started) (H : Type) (enc : TypeId × Value → H) :
    ReturnsInHanded {} Tryd.checked os 6 .any (fun w args => (Rows.fragSameSpec.pre enc Tryd.prog Tryd.f6 Rows.fragSameRow.domain false w args ∧ laidMet Tryd.prog lst w) ∧ sizedMet enc Tryd.prog Tryd.f6 (OpenSpec.ofChange Rows.fragSameSpec) false w args)
      (Rows.fragSameSpec.post enc Tryd.prog Tryd.f6 false true false false) := by
  refine returnsInHanded_of_change_and (C := Tryd.checked) (X := fun w _ => laidMet Tryd.prog lst w) (fun _ _ _ hh h => h.of_heap hh) Tryd.own started (by kernel_rfl) Tryd.func6
    (ChangeSpec.witness_at (enc := enc) (C := Tryd.checked) (os := os) (X := fun w _ => laidMet Tryd.prog lst w) false (laidWorld os) #[.slice none 0 0, .slice none 0 0] 8 rfl (by kernel_rfl) (by kernel_rfl) (by kernel_rfl) (by kernel_rfl) (by kernel_rfl) (laidWorld_met os _)) ?_
  intro W base args ds gs before hval0 hW _ hwt hL _
  have hval : ∀ (j : Nat) t v, Tryd.f6.params[j]? = some t → args[j]? = some v → Value.okWide Tryd.prog W .any base t v := hval0
  have hW' := hW
  obtain ⟨p, q, hA0, hV, rfl, _, _⟩ := hW
  have hA : DataW.TrodAll enc Tryd.prog W 0 (fun _ => true) true Tryd.f6.params.toList args.toList ds p := hA0
  have hwt2 : (DataW.weightsEach Tryd.prog (Tryd.f6.params.toList ++ Rows.fragSameSpec.plain.varTypes Tryd.prog) (ds ++ gs)).all (· ≤ reachBytes) = true := hwt
  rw [Tryd.params6] at hA hval hwt2
  obtain ⟨v0, v1, d0, d1, p0, p1, rfl, rfl, rfl, h0, h1⟩ := trodAll_two hA
  obtain ⟨rfl, rfl⟩ := trodVars_none hV
  have hv := hval 0 22 v0 rfl rfl
  have hv1 := hval 1 22 v1 rfl rfl
  clear hA0 hval0
  simp only [List.append_nil] at hW'
  have hlt : ∀ x ∈ p0 ++ p1, x.block < W.heap.size := fun x hx => by simpa using hW'.lt x hx
  obtain ⟨l, hmx, hr⟩ := funs_args hv h0 (Go.Abs.weightsEach_get hwt2 (i := 0) rfl rfl)
  obtain ⟨l', hmx', hr'⟩ := funs_args hv1 h1 (Go.Abs.weightsEach_get hwt2 (i := 1) rfl rfl)
  refine ((Go.Abs.Fr.same6_ev l l' hmx hmx' []).calls Tryd.func6 (by kernel_rfl) (c := (Tryd.f6.body).getD .skip) (by kernel_rfl) (glOk_of_laid hL) (argsOk2 hr (fun _ => trivial) hr' fun _ => trivial)).mono fun e W' h => ?_
  obtain ⟨⟨x, g', rfl, hr⟩, hb⟩ := h
  obtain rfl := Go.Abs.Rep.lit_iff.1 hr
  refine ⟨_, rfl, _, _, _, [], p0 ++ p1, [], hW', ?_, ?_, rfl, hb.frame _, fun h => by cases h⟩
  · exact trodAll_mk1 (shut_bool (show Tryd.prog.underlying 4 = some .bool from Go.Abs.Fr.u4) true)
  · exact trodAll_mk2 (Below.trod Tryd.laidOut (by kernel_rfl) (of_decide_eq_true (by kernel_rfl)) h0 hb fun x hx => hlt x (List.mem_append_left _ hx)) (Below.trod Tryd.laidOut (by kernel_rfl) (of_decide_eq_true (by kernel_rfl)) h1 hb fun x hx => hlt x (List.mem_append_right _ hx))

theorem same_holds : Rows.FragSameSaid :=
  OpenClaim.holds_of_wide 6 Tryd.f6 rfl rfl rfl rfl rfl rfl rfl ⟨rfl, rfl, rfl, rfl, rfl⟩ rfl rfl rfl rfl rfl (by kernel_rfl) Tryd.func6 (by kernel_rfl)
    (of_decide_eq_true (by kernel_rfl)) (by unfold Func.isWrapper; first | (rw [if_pos (by decide +kernel)]; kernel_rfl) | (rw [if_neg (by decide +kernel)]; exact ⟨rfl, rfl⟩))
    (fun os started H enc _ => same_lifted os started H enc)

theorem same_card : Rows.FragSameCardSaid :=
  Claim7.holds_tied_plain_at .later [] [.data, .data, .data] true (true, "998b49b3e7b0252a80d018b8f53d49c44ef6b2d7f1488ae66e08bbd62dacf7ce") false
    same_holds (fun _ h => by cases h) (by kernel_rfl) (fun _ h => by cases h) fragSame_row_tie rfl ⟨rfl, rfl⟩ (by kernel_rfl) rfl
    (fun f fn hf hfn => by
      obtain rfl : f = 6 := Option.some.inj ((show Tryd.prog.funcNamed "spandrel/spandrellaw18.FragSame" = some 6 by kernel_rfl).symm.trans hf) |>.symm
      obtain rfl : fn = Tryd.f6 := (Option.some.inj (Tryd.func6.symm.trans hfn)).symm
      exact ⟨by kernel_rfl, fun j t ht => by
        rw [Tryd.params6] at ht
        have h3 : t = 22 := by
          rcases j with _ | _ | j
          · simpa using ht.symm
          · simpa using ht.symm
          · simp at ht
        subst h3
        exact (show Tryd.prog.wantsStandIn 22 = false by kernel_rfl)⟩)
    (by kernel_rfl)
#print axioms same_card
end Go.Proofs.YtgbedffflggenaaDoor
