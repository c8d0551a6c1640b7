/- Ranges are sorted. -/
import Derived.Test.YtloimemacnjpgaaGreatS15No1
import Derived.Test.YtloimemacnjpgaaGreatS15ShSort
import Derived.Shelf.SlSortCmp.NoneTotal
import Derived.Test.YtloimemacnjpgaaGreatAbsSo
set_option linter.all false
namespace Go.Proofs
open Go.Shelf Go.RowKit Go.Lib Go.Sort
set_option maxRecDepth 100000
set_option maxHeartbeats 1000000 in
/-- The closure that compares. -/
theorem Tryz.normCmp (x1 x2 y1 y2 : Int) (W : World) : Calls Tryz.prog 102 #[.agg #[.int .i64 x1, .int .i64 x2], .agg #[.int .i64 y1, .int .i64 y2]] W fun e w' => e = .returned (.int .i64 (Lib.compareInt x1 y1)) ∧ ∃ q os', w' = grow (W.drewN q) os' := by
  have hcon := fun W' => AnyG.cmp_Compare_int Tryz.cmpInt x1 y1 W'
  change ∀ W', Calls Tryz.prog 103 _ _ _ at hcon
  generalize Lib.compareInt x1 y1 = r at hcon ⊢
  go_enter Tryz.func102, Tryz.ntmps102
  go_wp2_with (go_at_call 103; refine (hcon _).mono ?_; rintro e w' ⟨rfl, rfl⟩)
  go_ret
  exact ⟨rfl, 0, _, by rw [alloc_eq_grow, alloc_eq_grow, grow_grow]; rfl⟩
end Go.Proofs
namespace Go.Abs.Fr
open Go Go.Abs Go.Proofs Go.Sort
set_option linter.unusedSimpArgs false
set_option maxRecDepth 100000

instance : Inhabited Rg := ⟨⟨0, 0, by unfold InR; decide⟩⟩
def rgE (x : Rg) : List Value := [.int .i64 x.lo, .int .i64 x.hi]
def rgC (x y : Rg) : Int := Lib.compareInt x.lo y.lo
theorem rgLt (x y : Rg) : ltOf rgC x y = decide (x.lo < y.lo) := by
  unfold ltOf rgC Lib.compareInt
  by_cases h1 : x.lo < y.lo
  · simp [h1]
  · by_cases h2 : y.lo < x.lo <;> simp [h1, h2]
theorem rgSwo : SWO (ltOf rgC) where
  irrefl x := by rw [rgLt]; simp
  trans x y z h1 h2 := by rw [rgLt] at *; simp at *; omega
  ntrans x y z h1 h2 := by rw [rgLt] at *; simp at *; omega
theorem flat_toArray : ∀ (l : List Rg), flatK rgE 2 l.toArray = (l.flatMap rgE).toArray := by
  intro l
  have hl : ∀ l : List Rg, (l.flatMap rgE).length = l.length * 2 := fun l => by
    induction l with
    | nil => rfl
    | cons a l ih => simp [List.flatMap_cons, ih, rgE]; omega
  have hg : ∀ (l : List Rg) (t : Nat), t < l.length * 2 → (l.flatMap rgE)[t]? = (rgE l[t / 2]!)[t % 2]? := by
    intro l
    induction l with
    | nil => intro t ht; simp at ht
    | cons a l ih =>
      intro t ht
      rcases Nat.lt_or_ge t 2 with h | h
      · have : t = 0 ∨ t = 1 := by omega
        rcases this with rfl | rfl <;> rfl
      · obtain ⟨u, rfl⟩ : ∃ u, t = u + 2 := ⟨t - 2, by omega⟩
        have e1 : (u + 2) / 2 = u / 2 + 1 := by omega
        have e2 : (u + 2) % 2 = u % 2 := by omega
        rw [e1, e2, List.getElem!_cons_succ, ← ih u (by simp at ht; omega)]
        rfl
  refine ext_get! (by simp [hl]) fun t ht => ?_
  have ht' : t < l.length * 2 := by simpa using ht
  rw [get_flatK _ _ _ _ (by simpa using ht')]
  have := hg l t ht'
  rw [show (l.toArray)[t / 2]! = l[t / 2]! from by simp, show (l.flatMap rgE).toArray[t]! = (l.flatMap rgE)[t]! from by simp]
  simp only [List.getElem!_eq_getElem?_getD] at this ⊢
  rw [this]
theorem flat_len (l : List Rg) : (l.flatMap rgE).length = l.length * 2 := by
  induction l with
  | nil => rfl
  | cons a l ih => simp [List.flatMap_cons, ih, rgE]; omega
theorem flat_lit (l : List Rg) : flatC (l.map rgv) = (l.flatMap rgE).map AV.lit := by
  induction l with
  | nil => rfl
  | cons a l ih => show (rgv a).cells ++ flatC (l.map rgv) = _; rw [ih]; rfl
theorem sort_ok : SortOk := by
  intro l P J lo s hlo hs hl
  rcases hs with ⟨rfl, he⟩ | ⟨id, cap, rfl, h2, h3, h4⟩
  · have hnil : l = [] := by simpa using he
    subst hnil
    refine (ev_of_kit (v := .tup []) Tryz.func101 (by rfl) rfl fun w g vs hg hgl ha => ?_).mono fun r h' hr => ⟨hr.1, J, [], hr.2, List.Perm.refl _, List.Pairwise.nil, .inl ⟨rfl, rfl⟩⟩
    obtain ⟨a1, a2⟩ := ha
    obtain ⟨x0, b0, b1, _⟩ := a2 0 _ rfl
    obtain ⟨x1, c0, c1, _⟩ := a2 1 _ rfl
    simp only [Rep] at b1 c1
    obtain ⟨base, len, cap, rfl, d1, d2, d3, d4, d5⟩ := b1
    simp only [List.length_nil] at d1
    subst d1
    have hvs : vs = #[.slice base 0 cap, x1] := by
      apply Array.ext_getElem?
      intro i
      match i with
      | 0 => simpa using b0
      | 1 => simpa using c0
      | n + 2 => rw [Array.getElem?_eq_none (by rw [a1]; simp), Array.getElem?_eq_none (by simp)]
    subst hvs
    refine (AnyF.slices_SortFunc_none Tryz.sortRg base cap x1 w).mono ?_
    rintro e w' ⟨rfl, hw⟩
    subst hw
    exact ⟨_, rfl, ⟨rfl, rfl, rfl, Nat.le_refl _, fun _ _ => rfl⟩, fun g' => by simp only [Rep]; exact ⟨_, rfl, by simp [Reps]⟩⟩
  · rw [List.length_map] at h3 ⊢
    have hF : (dynL z2 (l.map rgv) cap).take (l.flatMap rgE).length = (l.flatMap rgE).map AV.lit := by
      have := dyn_take (z := z2) (cap := cap) (fit_rgs l)
      rw [List.length_map] at this
      rw [flat_len, this, flat_lit]
    refine (ev_of_row (Φ := fun F' => ∃ l' : List Rg, F' = l'.flatMap rgE ∧ l'.Perm l ∧ l'.Pairwise loLe) Tryz.func101 (by rfl) rfl h2 hF (fun F' hF' => by
      obtain ⟨l', rfl, hp, _⟩ := hF'
      rw [flat_len, flat_len, hp.length_eq]) fun w g vs ha hH hblk => ?_).mono fun r h' hr => ?_
    · obtain ⟨a1, a2⟩ := ha
      obtain ⟨x0, b0, b1, _⟩ := a2 0 _ rfl
      obtain ⟨x1, c0, c1, _⟩ := a2 1 _ rfl
      simp only [Rep] at b1 c1
      obtain ⟨rfl, _⟩ := b1
      obtain ⟨fa, ca, rfl, f1, f2⟩ := c1
      simp only [Reps] at f1 f2
      have hvs : vs = #[.slice (some ⟨g.loc id, 0, none⟩) l.length cap, .func (.func 102) #[] #[]] := by
        apply Array.ext_getElem?
        intro i
        match i with
        | 0 => simpa using b0
        | 1 => rw [c0]; simp; exact ⟨by simpa using f1, by simpa using f2⟩
        | n + 2 => rw [Array.getElem?_eq_none (by rw [a1]; simp), Array.getElem?_eq_none (by simp)]
      subst hvs
      rw [← flat_toArray] at hH
      have hcon := AnyQ.slices_SortFunc Tryz.sortRg 2 Tryz.isAgg80 Tryz.sizeOf80 rgE (fun _ => rfl) (fun x v hv => by simp [rgE] at hv; rcases hv with rfl | rfl <;> rfl) rgC rgSwo 102 #[] (g.loc id) 0 cap l.toArray w (enters_of Tryz.func102 (by kernel_rfl) rfl)
        (fun _ _ _ _ x y => Tryz.normCmp x.lo x.hi y.lo y.hi _) hH hblk (by rw [List.size_toArray]; omega)
      refine hcon.mono ?_
      rintro e w' ⟨rfl, d', n, os, hp, hso, rfl⟩
      have hsz : d'.size = l.length := by simpa using hp.1
      refine ⟨rfl, d'.toList.flatMap rgE, n, os, ⟨d'.toList, rfl, ?_, ?_⟩, ?_⟩
      · have := hp.2.2
        have e1 : (d'.extract 0 l.toArray.size).toList = d'.toList := by
          rw [Array.toList_extract, List.size_toArray, ← hsz]; simp only [List.extract_eq_take_drop, Nat.sub_zero, List.drop_zero]; rw [← Array.length_toList, List.take_length]
        have e2 : (l.toArray.extract 0 l.toArray.size).toList = l := by
          rw [Array.toList_extract, List.size_toArray]; simp only [List.extract_eq_take_drop, Nat.sub_zero, List.drop_zero, List.take_length]
        rwa [e1, e2] at this
      · rw [List.pairwise_iff_getElem]
        intro i j hi hj hij
        have := hso i j (Nat.zero_le _) hij (by simpa [hsz] using hj)
        rw [rgLt] at this
        simp only [Array.length_toList] at hi hj
        rw [getElem!_pos d' i hi, getElem!_pos d' j hj] at this
        simp only [decide_eq_false_iff_not] at this
        show d'.toList[i].lo ≤ d'.toList[j].lo
        simp only [Array.getElem_toList]
        omega
      · unfold sortWorldK putRowK
        rw [← flat_toArray]
    · obtain ⟨rfl, F', ⟨l', rfl, hp, hw⟩, rfl⟩ := hr
      have hdr : (dynL z2 (l.map rgv) cap).drop (l.flatMap rgE).length = zerosL (cap - l.length) z2 := by
        rw [dynL, flat_lit, ← List.length_map (f := AV.lit), List.drop_left, List.length_map]
      have hidl := (List.getElem?_eq_some_iff.1 h2).1
      refine ⟨rfl, J.set (id - lo) (.cells (dynL z2 (l'.map rgv) cap)), l', ?_, hp, hw, ?_⟩
      · rw [← hlo, ← List.set_append_right _ _ (by rw [hlo]; exact h4), hdr, dynL, flat_lit, List.length_map, hp.length_eq]
      · refine .inr ⟨id, cap, by rw [List.length_map, hp.length_eq], ?_, by rw [List.length_map, hp.length_eq]; exact h3, h4⟩
        rw [List.getElem?_set_self hidl, hdr, dynL, flat_lit, List.length_map, hp.length_eq]
end Go.Abs.Fr
