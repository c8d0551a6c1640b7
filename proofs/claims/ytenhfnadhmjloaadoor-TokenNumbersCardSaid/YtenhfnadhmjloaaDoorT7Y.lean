/- TokenNumbers, for every number: the law's function returns true; the rows' condition on the listed variables is tied to the program's text. -/
import Derived.Test.YtenhfnadhmjloaaDoorT7R
import Derived.Test.YtenhfnadhmjloaaDoorT7Q
import Derived.Test.YtenhfnadhmjloaaDoorTie
import Derived.Test.YtenhfnadhmjloaaDoorCards
set_option linter.all false
namespace Go.Proofs.YtenhfnadhmjloaaDoor
open Go.ChangeShapes Go.WideShapes Go.ChangeAt Go.RowKit
open Go.ChangeMaps (open_string shut_string)

set_option maxRecDepth 100000 in
theorem numbers_lifted (os : Os) (started : os.Started) (H : Type) (enc : TypeId × Value → H) :
    ReturnsInHanded {} Tryd.checked os 5 .any (fun w args => (Rows.tokenNumbersSpec.pre enc Tryd.prog Tryd.f5 Rows.tokenNumbersRow.domain false w args ∧ laidMet Tryd.prog lst w) ∧ sizedMet enc Tryd.prog Tryd.f5 (OpenSpec.ofChange Rows.tokenNumbersSpec) false w args)
      (Rows.tokenNumbersSpec.post enc Tryd.prog Tryd.f5 false true false false) := by
  refine returnsInHanded_of_change_and (C := Tryd.checked) (X := fun w _ => laidMet Tryd.prog lst w) (fun _ _ _ hh h => h.of_heap hh) Tryd.own started (by kernel_rfl) Tryd.func5
    (ChangeSpec.witness_at (enc := enc) (C := Tryd.checked) (os := os) (X := fun w _ => laidMet Tryd.prog lst w) false (laidWorld os) #[.int .i64 0] 8 rfl (by kernel_rfl) (by kernel_rfl) (by kernel_rfl) (by kernel_rfl) (by kernel_rfl) (laidWorld_met os _)) ?_
  intro W base args ds gs before hval0 hW _ _ hL _
  have hval : ∀ (j : Nat) t v, Tryd.f5.params[j]? = some t → args[j]? = some v → Value.okWide Tryd.prog W .any base t v := hval0
  have hW' := hW
  obtain ⟨p, q, hA0, hV, rfl, _, _⟩ := hW
  have hA : DataW.TrodAll enc Tryd.prog W 0 (fun _ => true) true Tryd.f5.params.toList args.toList ds p := hA0
  rw [Tryd.params5] at hA hval
  obtain ⟨v0, d0, rfl, rfl, h0⟩ := trodAll_one hA
  obtain ⟨rfl, rfl⟩ := trodVars_none hV
  obtain ⟨s, rfl, rfl, rfl, hs⟩ := open_int Tryd.underlying3 (hval 0 3 v0 rfl rfl) h0
  have hs2 : -9223372036854775808 ≤ s ∧ s ≤ 9223372036854775807 := by
    rw [show (Lit.int .i64 s).wf = (decide (-9223372036854775808 ≤ s) && decide (s ≤ 9223372036854775807)) from rfl, Bool.and_eq_true, decide_eq_true_eq, decide_eq_true_eq] at hs
    exact hs
  clear hA0 hval0
  simp only [List.append_nil] at hW'
  refine ((Go.Abs.T7.numbers_ev s [] hs2.1 hs2.2).calls Tryd.func5 (by kernel_rfl) (c := (Tryd.f5.body).getD .skip) (by kernel_rfl) (glOk_of_laid hL) Go.Abs.argsOk_one).mono fun e W' h => ?_
  obtain ⟨⟨x, g', rfl, hr⟩, hb⟩ := h
  obtain rfl := Go.Abs.Rep.lit_iff.1 hr
  refine ⟨_, rfl, _, _, _, [], [], [], hW', ?_, ?_, rfl, hb.frame _, fun h => by cases h⟩
  · exact trodAll_mk1 (shut_bool Tryd.underlying4 true)
  · exact trodAll_mk1 (shut_int Tryd.underlying3 hs)

theorem numbers_holds : Rows.TokenNumbersSaid :=
  OpenClaim.holds_of_wide 5 Tryd.f5 rfl rfl rfl rfl rfl rfl rfl ⟨rfl, rfl, rfl, rfl, rfl⟩ rfl rfl rfl rfl rfl (by kernel_rfl) Tryd.func5 (by kernel_rfl)
    (of_decide_eq_true (by kernel_rfl)) (by unfold Func.isWrapper; first | (rw [if_pos (by decide +kernel)]; kernel_rfl) | (rw [if_neg (by decide +kernel)]; exact ⟨rfl, rfl⟩))
    (fun os started H enc _ => numbers_lifted os started H enc)

theorem numbers_card : Rows.TokenNumbersCardSaid :=
  Claim7.holds_tied_plain_at .later [] [.data, .data, .data, .sentinel, .sentinel] true (true, "551622fd71e3a7f9b30e05f43adcc85f11ae93f6d336fba504faff55d8d2c863") true
    numbers_holds (fun _ h => by cases h) (by kernel_rfl) (fun _ h => by cases h) tokenNumbers_row_tie rfl ⟨rfl, rfl⟩ (by kernel_rfl) rfl
    (fun f fn hf hfn => by
      obtain rfl : f = 5 := Option.some.inj ((show Tryd.prog.funcNamed "spandrel/spandrellaw07.TokenNumbers" = some 5 by kernel_rfl).symm.trans hf) |>.symm
      obtain rfl : fn = Tryd.f5 := (Option.some.inj (Tryd.func5.symm.trans hfn)).symm
      exact ⟨by kernel_rfl, fun j t ht => by
        rw [Tryd.params5] at ht
        have h3 : t = 3 := by
          rcases j with _ | j
          · simpa using ht.symm
          · simp at ht
        subst h3
        exact (show Tryd.prog.wantsStandIn 3 = false by kernel_rfl)⟩)
    (by kernel_rfl)
#print axioms numbers_card
end Go.Proofs.YtenhfnadhmjloaaDoor
