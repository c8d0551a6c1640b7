/- TokenOrder, for every text: the law's function returns true; the rows' condition on the listed variables is tied to the program's text. -/
import Derived.Test.YtenhfnadhmjloaaDoorT7R
import Derived.Test.YtenhfnadhmjloaaDoorT7V
import Derived.ChangeSlices
import Derived.Carry
import Derived.Test.YtenhfnadhmjloaaDoorTie
import Derived.Test.YtenhfnadhmjloaaDoorCards
set_option linter.all false
namespace Go.Proofs.YtenhfnadhmjloaaDoor
open Go.ChangeShapes Go.WideShapes Go.ChangeAt Go.RowKit
open Go.ChangeMaps (open_string shut_string)

theorem Tryd.order_laidOut : laidOutB Tryd.prog = true := by kernel_rfl
theorem Tryd.order_cells5 : Tryd.prog.cellsOf 5 = 1 := by kernel_rfl

/-- A list of octets, as it is read, stands for its octets. -/
theorem bytes_args {H : Type} {enc : TypeId × Value → H} {W : World} {base : Nat} {v : Value} {d : DataW H} {ps : List MemPlace} (hval : Value.okWide Tryd.prog W .any base 24 v) (h : DataW.Trod enc Tryd.prog W 0 (fun _ => true) true 24 v d ps) :
    ∃ l : List UInt8, Go.Abs.argsOk W (Go.Abs.Gh.all W) 0 [.sl .unk (Go.Abs.T7.byA l)] #[v] := by
  obtain ⟨a, len, cap, rfl⟩ := okWide_slice Tryd.underlying24 hval
  obtain ⟨fuel, hf⟩ := h
  have one : ∀ (l : List UInt8), Go.Abs.Rep W (Go.Abs.Gh.all W) 0 (.sl .unk (Go.Abs.T7.byA l)) (.slice a len cap) → Go.Abs.argsOk W (Go.Abs.Gh.all W) 0 [.sl .unk (Go.Abs.T7.byA l)] #[.slice a len cap] := by
    intro l hr
    refine ⟨rfl, fun i av hi => ?_⟩
    match i, hi with
    | 0, hi => cases hi; exact ⟨_, rfl, hr, trivial⟩
  rcases open_ints Tryd.underlying24 Tryd.underlying5 Tryd.order_cells5 hf with ⟨hc, _⟩ | ⟨a', len', cap', zs, hc, hb, hl, hm, hz, _, hcell, hw⟩
  · simp only [Value.cells, List.cons.injEq, Value.slice.injEq, and_true] at hc
    obtain ⟨rfl, rfl, rfl⟩ := hc
    refine ⟨[], one [] ?_⟩
    simp only [Go.Abs.Rep]
    exact ⟨none, 0, 0, rfl, rfl, Nat.le_refl _, (fun h => by cases h), fun _ => rfl, fun a h => by cases h⟩
  · simp only [Value.cells, List.cons.injEq, Value.slice.injEq, and_true] at hc
    obtain ⟨rfl, rfl, rfl⟩ := hc
    have hspot : a'.spot = none := by
      simp only [Value.okWide, Tryd.underlying24, Cell.okWide, Cell.ok] at hval
      exact hval.2.2.2.1
    have hlz : len ≤ zs.length := by rw [hz]; split <;> omega
    have hz8 : ∀ n ∈ zs, (((UInt8.ofNat n.toNat).toNat : Nat) : Int) = n := by
      intro n hn
      have := hw n hn
      rw [show (Lit.int .u8 n).wf = (decide (0 ≤ n) && decide (n ≤ 255)) from rfl, Bool.and_eq_true, decide_eq_true_eq, decide_eq_true_eq] at this
      have h2 : n.toNat < 256 := by omega
      rw [UInt8.toNat_ofNat_of_lt' h2]
      omega
    refine ⟨(zs.take len).map fun n => UInt8.ofNat n.toNat, one _ ?_⟩
    simp only [Go.Abs.Rep]
    refine ⟨some a', len, cap, rfl, by simp; omega, hl, (fun h => by cases h), (fun h => by cases h), fun a ha => ?_⟩
    cases ha
    refine ⟨hspot, 1, Go.Abs.Els.of_get fun i e he => ?_⟩
    simp only [List.getElem?_map, Option.map_eq_some_iff] at he
    obtain ⟨c, ⟨n, hn, rfl⟩, rfl⟩ := he
    have hi : i < len := by
      rcases Nat.lt_or_ge i len with h | h
      · exact h
      · rw [List.getElem?_eq_none (by simp; omega)] at hn; cases hn
    have hn' : zs[i]? = some n := by rw [List.getElem?_take, if_pos hi] at hn; exact hn
    have hmem := List.mem_of_getElem? hn'
    refine ⟨.int .u8 n, ?_, rfl, Go.Abs.holds_all fun j u hj => ?_⟩
    · simp only [Go.Abs.Rep]; rw [hz8 n hmem]
    · match j, hj with
      | 0, hj =>
        have := hcell i (by omega)
        rw [List.getD, hn'] at this
        simp only [Value.cells, List.getElem?_cons_zero, Option.some.injEq] at hj
        subst hj
        have e : a'.add i = ⟨a'.block, a'.off + i * 1 + 0, none⟩ := by
          obtain ⟨b, o, s⟩ := a'
          simp only at hspot
          subst hspot
          simp [Addr.add]
        rw [e] at this
        simpa using this

set_option maxRecDepth 100000 in
theorem order_lifted (os : Os) (started : os.Started) (H : Type) (enc : TypeId × Value → H) :
    ReturnsInHanded {} Tryd.checked os 4 .any (fun w args => (Rows.tokenOrderSpec.pre enc Tryd.prog Tryd.f4 Rows.tokenOrderRow.domain false w args ∧ laidMet Tryd.prog lst w) ∧ sizedMet enc Tryd.prog Tryd.f4 (OpenSpec.ofChange Rows.tokenOrderSpec) false w args)
      (Rows.tokenOrderSpec.post enc Tryd.prog Tryd.f4 false true false false) := by
  refine returnsInHanded_of_change_and (C := Tryd.checked) (X := fun w _ => laidMet Tryd.prog lst w) (fun _ _ _ hh h => h.of_heap hh) Tryd.own started (by kernel_rfl) Tryd.func4
    (ChangeSpec.witness_at (enc := enc) (C := Tryd.checked) (os := os) (X := fun w _ => laidMet Tryd.prog lst w) false (laidWorld os) #[.slice none 0 0] 8 rfl (by kernel_rfl) (by kernel_rfl) (by kernel_rfl) (by kernel_rfl) (by kernel_rfl) (laidWorld_met os _)) ?_
  intro W base args ds gs before hval0 hW _ _ hL _
  have hval : ∀ (j : Nat) t v, Tryd.f4.params[j]? = some t → args[j]? = some v → Value.okWide Tryd.prog W .any base t v := hval0
  have hW' := hW
  obtain ⟨p, q, hA0, hV, rfl, _, _⟩ := hW
  have hA : DataW.TrodAll enc Tryd.prog W 0 (fun _ => true) true Tryd.f4.params.toList args.toList ds p := hA0
  rw [Tryd.params4] at hA hval
  obtain ⟨v0, d0, rfl, rfl, h0⟩ := trodAll_one hA
  obtain ⟨rfl, rfl⟩ := trodVars_none hV
  have hv := hval 0 24 v0 rfl rfl
  clear hA0 hval0
  simp only [List.append_nil] at hW'
  have hlt : ∀ x ∈ p, x.block < W.heap.size := fun x hx => by simpa using hW'.lt x hx
  obtain ⟨l, ha⟩ := bytes_args hv h0
  refine ((Go.Abs.T7.order_ev l []).calls Tryd.func4 (by kernel_rfl) (c := (Tryd.f4.body).getD .skip) (by kernel_rfl) (glOk_of_laid hL) ha).mono fun e W' h => ?_
  obtain ⟨⟨x, g', rfl, hr⟩, hb⟩ := h
  obtain rfl := Go.Abs.Rep.lit_iff.1 hr
  refine ⟨_, rfl, _, _, _, [], p, [], hW', ?_, ?_, rfl, hb.frame _, fun h => by cases h⟩
  · exact trodAll_mk1 (shut_bool Tryd.underlying4 true)
  · exact trodAll_mk1 (Below.trod Tryd.order_laidOut (by kernel_rfl) (of_decide_eq_true (by kernel_rfl)) h0 hb hlt)

theorem order_holds : Rows.TokenOrderSaid :=
  OpenClaim.holds_of_wide 4 Tryd.f4 rfl rfl rfl rfl rfl rfl rfl ⟨rfl, rfl, rfl, rfl, rfl⟩ rfl rfl rfl rfl rfl (by kernel_rfl) Tryd.func4 (by kernel_rfl)
    (of_decide_eq_true (by kernel_rfl)) (by unfold Func.isWrapper; first | (rw [if_pos (by decide +kernel)]; kernel_rfl) | (rw [if_neg (by decide +kernel)]; exact ⟨rfl, rfl⟩))
    (fun os started H enc _ => order_lifted os started H enc)

theorem order_card : Rows.TokenOrderCardSaid :=
  Claim7.holds_tied_plain_at .later [] [.data, .data, .data, .sentinel, .sentinel] true (true, "551622fd71e3a7f9b30e05f43adcc85f11ae93f6d336fba504faff55d8d2c863") true
    order_holds (fun _ h => by cases h) (by kernel_rfl) (fun _ h => by cases h) tokenOrder_row_tie rfl ⟨rfl, rfl⟩ (by kernel_rfl) rfl
    (fun f fn hf hfn => by
      obtain rfl : f = 4 := Option.some.inj ((show Tryd.prog.funcNamed "spandrel/spandrellaw07.TokenOrder" = some 4 by kernel_rfl).symm.trans hf) |>.symm
      obtain rfl : fn = Tryd.f4 := (Option.some.inj (Tryd.func4.symm.trans hfn)).symm
      exact ⟨by kernel_rfl, fun j t ht => by
        rw [Tryd.params4] at ht
        have h3 : t = 24 := by
          rcases j with _ | j
          · simpa using ht.symm
          · simp at ht
        subst h3
        exact (show Tryd.prog.wantsStandIn 24 = false by kernel_rfl)⟩)
    (by kernel_rfl)
#print axioms order_card
end Go.Proofs.YtenhfnadhmjloaaDoor
