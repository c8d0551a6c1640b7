/- MemberCanons, for every table and two values: the law's function returns true, and what it was handed reads as before. -/
import Derived.Test.YtloimemacnjpgaaGreatS15RwM
import Derived.Test.YtloimemacnjpgaaGreatS15Rf16
set_option linter.all false
namespace Go.Proofs.YtloimemacnjpgaaGreat
open Go.ChangeShapes Go.WideShapes Go.ChangeAt Go.RowKit

set_option maxRecDepth 100000 in
theorem canons_lifted (os : Os) (started : os.Started) (H : Type) (enc : TypeId × Value → H) :
    ReturnsInHanded {} Tryz.checked os 3 .any (Rows.memberCanonsSpec.pre6 enc Tryz.prog Tryz.f3 Rows.memberCanonsRow.domain false) (Rows.memberCanonsSpec.post enc Tryz.prog Tryz.f3 false true false false) := by
  refine returnsInHanded_of_change_sized (C := Tryz.checked) Tryz.own started (by kernel_rfl) Tryz.func3
    (ChangeSpec.witness6 (enc := enc) (C := Tryz.checked) false ⟨#[], #[.slice none 0 0, .agg #[.int .i64 0, .int .i64 0, .string ⟨#[]⟩, .slice none 0 0, .slice none 0 0], .agg #[.int .i64 0, .int .i64 0, .string ⟨#[]⟩, .slice none 0 0, .slice none 0 0]], []⟩ 8 (by kernel_rfl) (by kernel_rfl) (by kernel_rfl) (by kernel_rfl)) ?_
  intro W base args ds gs before hval0 hW _ hwt _
  have hval : ∀ (j : Nat) t v, Tryz.f3.params[j]? = some t → args[j]? = some v → Value.okWide Tryz.prog W .any base t v := hval0
  have hW' := hW
  obtain ⟨p, q, hA0, hV, rfl, _, _⟩ := hW
  have hA : DataW.TrodAll enc Tryz.prog W 0 (fun _ => true) true Tryz.f3.params.toList args.toList ds p := hA0
  have hwt2 : (DataW.weightsEach Tryz.prog (Tryz.f3.params.toList ++ Rows.memberCanonsSpec.plain.varTypes Tryz.prog) (ds ++ gs)).all (· ≤ reachBytes) = true := hwt
  rw [Tryz.params3] at hA hval hwt2
  obtain ⟨v0, v1, v2, d0, d1, d2, p0, p1, p2, rfl, rfl, rfl, h0, h1, h2⟩ := trodAll_three hA
  obtain ⟨rfl, rfl⟩ := trodVars_none hV
  have hv0 := hval 0 22 v0 rfl rfl
  have hv1 := hval 1 26 v1 rfl rfl
  have hv2 := hval 2 26 v2 rfl rfl
  clear hA0 hval0
  simp only [List.append_nil] at hW'
  have hlt : ∀ x ∈ p0 ++ p1 ++ p2, x.block < W.heap.size := fun x hx => by simpa using hW'.lt x hx
  obtain ⟨l, hl, hr⟩ := tab_args hv0 h0 (Go.Abs.weightsEach_get hwt2 (i := 0) rfl rfl)
  obtain ⟨u, hu, hs⟩ := val_args hv1 h1 (Go.Abs.weightsEach_get hwt2 (i := 1) rfl rfl)
  obtain ⟨y, hy, hq⟩ := val_args hv2 h2 (Go.Abs.weightsEach_get hwt2 (i := 2) rfl rfl)
  refine ((Go.Abs.Fr.canons_ev l u y hl hu hy []).calls Tryz.func3 (by kernel_rfl) (c := (Tryz.f3.body).getD .skip) (by kernel_rfl) glOk_none (argsOk3 hr (fun _ => trivial) hs (fun _ => by rw [Go.Abs.Fr.valv_eq]; exact trivial) hq fun _ => by rw [Go.Abs.Fr.valv_eq]; exact trivial)).mono fun e W' h => ?_
  obtain ⟨⟨x, g', rfl, hr⟩, hb⟩ := h
  obtain rfl := Go.Abs.Rep.lit_iff.1 hr
  refine ⟨_, rfl, _, _, _, [], p0 ++ p1 ++ p2, [], hW', ?_, ?_, rfl, hb.frame _, fun h => by cases h⟩
  · exact trodAll_mk1 (shut_bool (show Tryz.prog.underlying 4 = some .bool from Go.Abs.Fr.u4) true)
  · have := trodAll_mk3 (Below.trod Tryz.laidOut (by kernel_rfl) (of_decide_eq_true (by kernel_rfl)) h0 hb (fun x hx => hlt x (List.mem_append_left _ (List.mem_append_left _ hx)))) (Below.trod Tryz.laidOut (by kernel_rfl) (of_decide_eq_true (by kernel_rfl)) h1 hb (fun x hx => hlt x (List.mem_append_left _ (List.mem_append_right _ hx)))) (Below.trod Tryz.laidOut (by kernel_rfl) (of_decide_eq_true (by kernel_rfl)) h2 hb (fun x hx => hlt x (List.mem_append_right _ hx)))
    rw [← List.append_assoc] at this
    exact this

theorem canons_holds : Rows.MemberCanonsSaid :=
  OpenClaim.holds_of_wide 3 Tryz.f3 rfl rfl rfl rfl rfl rfl rfl ⟨rfl, rfl, rfl, rfl, rfl⟩ rfl rfl rfl rfl rfl (by kernel_rfl) Tryz.func3 (by kernel_rfl)
    (of_decide_eq_true (by kernel_rfl)) (by unfold Func.isWrapper; first | (rw [if_pos (by decide +kernel)]; kernel_rfl) | (rw [if_neg (by decide +kernel)]; exact ⟨rfl, rfl⟩))
    (fun os started H enc _ => canons_lifted os started H enc)
#print axioms canons_holds
end Go.Proofs.YtloimemacnjpgaaGreat
