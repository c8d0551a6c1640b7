/- What an argument that is a table, or a value, stands for. -/
import Derived.Test.YtloimemacnjpgaaGreatS15Td
import Derived.Test.YtloimemacnjpgaaGreatAbsZr
set_option linter.all false
namespace Go.Abs.Fr
open Go Go.Abs Go.Proofs Go.RowKit
set_option linter.unusedSimpArgs false
set_option maxRecDepth 100000

section
variable {H : Type} {enc : TypeId × Value → H} {W : World}

theorem u4 : E0.P.underlying 4 = some .bool := by kernel_rfl
theorem u3 : E0.P.underlying 3 = some (.int .i64) := by kernel_rfl
theorem u9 : E0.P.underlying 9 = some .string := by kernel_rfl
theorem wf_i64 {n : Int} (h : (Lit.int .i64 n).wf = true) : InR n := by
  rw [show (Lit.int .i64 n).wf = (decide (-9223372036854775808 ≤ n) && decide (n ≤ 9223372036854775807)) from rfl, Bool.and_eq_true, decide_eq_true_eq, decide_eq_true_eq] at h
  exact h
def fieldsIs (P : Program) (t : TypeId) (tot : Nat) (l : List (TypeId × Nat × Nat)) : Bool :=
  match P.underlying t with
  | some (.struct fs) => decide (fs.toList.map (fun f => (f.type, f.offset, P.cellsOf f.type)) = l) && decide (P.cellsOf t = tot)
  | _ => false
theorem trod_fields {P : Program} {n tot : Nat} {t : TypeId} {l : List (TypeId × Nat × Nat)} (hs : fieldsIs P t tot l = true) {cs : List Value} {x : DataW H × List MemPlace} (h : DataW.trod enc P W 0 (fun _ => true) true n t cs = some x)
    (hw : (x.1.weights P t).all (· ≤ reachBytes) = true) :
    ∃ m, n = m + 1 ∧ cs.length = tot ∧ ∀ (i : Nat) ft off sz, l[i]? = some (ft, off, sz) → ∃ y, DataW.trod enc P W 0 (fun _ => true) true m ft ((cs.drop off).take sz) = some y ∧ (y.1.weights P ft).all (· ≤ reachBytes) = true := by
  unfold fieldsIs at hs
  split at hs
  · rename_i fs hu
    rw [Bool.and_eq_true, decide_eq_true_eq, decide_eq_true_eq] at hs
    obtain ⟨hf, hct⟩ := hs
    obtain ⟨xs, m, rfl, rfl, hcl, hxl, hget⟩ := DataW.trod_struct hu h
    refine ⟨m, rfl, by rw [hcl, hct], fun i ft off sz hi => ?_⟩
    have hfi := congrArg (fun l => l[i]?) hf
    simp only [List.getElem?_map, hi] at hfi
    obtain ⟨f, hff, hfe⟩ := Option.map_eq_some_iff.1 hfi
    simp only [Prod.mk.injEq] at hfe
    obtain ⟨h1, h2, h3⟩ := hfe
    have hg := hget i f (by simpa using hff)
    rw [h3, h1, h2] at hg
    have hfl := (List.getElem?_eq_some_iff.1 hff).1
    obtain ⟨y, hy⟩ : ∃ y, xs[i]? = some y := ⟨_, List.getElem?_eq_getElem (by rw [hxl]; simpa using hfl)⟩
    rw [hy] at hg
    refine ⟨y, hg, ?_⟩
    simp only [DataW.weights, hu] at hw
    exact weightsEach_get hw (i := i) (by rw [List.getElem?_map, hff, Option.map_some, h1]) (by rw [List.getElem?_map, hy]; rfl)
  · cases hs
/-- A field, of whatever size. -/
theorem rd_piece {P : Program} {m : Nat} {t : TypeId} {α : Type} {av : α → AV} {ok : α → Prop} (h : RdAt enc P W m t av ok) (hs : ∀ a, (av a).sure = true) {c : List Value} {y : DataW H × List MemPlace}
    (hc : DataW.trod enc P W 0 (fun _ => true) true m t c = some y) (hw : (y.1.weights P t).all (· ≤ reachBytes) = true) : ∃ a, ok a ∧ Reps W (Gh.all W) 0 (av a).cells c := by
  obtain ⟨a, h1, v, hv, hr⟩ := h _ _ hc hw
  have := Rep.cells (hs a) hr
  rw [hv] at this
  exact ⟨a, h1, this⟩
theorem reps_glue {g : Gh} {n off sz : Nat} {a b : List AV} {cs : List Value} (h : Reps W g n a ((cs.drop off).take sz)) (h2 : Reps W g n b (cs.drop (off + sz))) : Reps W g n (a ++ b) (cs.drop off) := by
  rw [← List.take_append_drop sz (cs.drop off), List.drop_drop]
  exact Reps.append h h2

theorem uStrs : E0.P.underlying 23 = some (.slice 9) := by kernel_rfl
theorem kStr : 0 < E0.P.cellsOf 9 ∧ 0 < E0.P.bytesOf 9 := ⟨of_decide_eq_true (by kernel_rfl), of_decide_eq_true (by kernel_rfl)⟩
theorem mxB_of {M : Nat} : ∀ {l : List ByteArray}, l.length ≤ M → (∀ a, a ∈ l → a.size ≤ M) → mxB l ≤ M
  | [], _, _ => by simp [mxB]
  | a :: l, h, h2 => by
    have h3 := h2 a (List.mem_cons_self ..)
    have h4 := mxB_of (l := l) (by simp at h; omega) (fun b hb => h2 b (List.mem_cons_of_mem _ hb))
    simp only [List.length_cons] at h
    simp only [mxB]; omega
theorem rd_strs : ∀ (n : Nat), RdAt enc E0.P W n 23 (fun l : List ByteArray => .sl .unk (l.map str)) (fun l => mxB l ≤ reachBytes)
  | 0 => RdAt.zero
  | n + 1 => (RdAt.slice uStrs kStr.1 kStr.2 (RdAt.string u9)).mono fun l h => mxB_of h.1 h.2

theorem uVals : E0.P.underlying 24 = some (.slice 26) := by kernel_rfl
theorem sVal : onesIs E0.P 26 [3, 3, 9, 23, 24] = true := by kernel_rfl
theorem kVal : 0 < E0.P.cellsOf 26 ∧ 0 < E0.P.bytesOf 26 := ⟨of_decide_eq_true (by kernel_rfl), of_decide_eq_true (by kernel_rfl)⟩
theorem list5 {cs : List Value} {a b c d e : Value} (hl : cs.length = 5) (h0 : cs[0]? = some a) (h1 : cs[1]? = some b) (h2 : cs[2]? = some c) (h3 : cs[3]? = some d) (h4 : cs[4]? = some e) : cs = [a, b, c, d, e] := by
  match cs, hl with
  | [x, y, z, u, v], _ => simp at h0 h1 h2 h3 h4; subst h0 h1 h2 h3 h4; rfl
theorem mxVs_of {M : Nat} : ∀ {l : List Val}, l.length ≤ M → (∀ a, a ∈ l → mxV a ≤ M) → mxVs l ≤ M
  | [], _, _ => by simp [mxVs]
  | a :: l, h, h2 => by
    have h3 := h2 a (List.mem_cons_self ..)
    have h4 := mxVs_of (l := l) (by simp at h; omega) (fun b hb => h2 b (List.mem_cons_of_mem _ hb))
    simp only [List.length_cons] at h
    simp only [mxVs]; omega
theorem rd_val_of {m : Nat} (ih : RdAt enc E0.P W m 24 (fun l : List Val => .sl .unk (l.map valv)) (fun l => mxVs l ≤ reachBytes)) : RdAt enc E0.P W (m + 1) 26 valv (fun s => mxV s ≤ reachBytes) := fun cs x h hw => by
  obtain ⟨m', hm, hl, hf⟩ := trod_ones sVal h hw
  obtain rfl : m = m' := Nat.succ.inj hm
  obtain ⟨c0, y0, e0, t0, w0⟩ := hf 0 3 rfl
  obtain ⟨c1, y1, e1, t1, w1⟩ := hf 1 3 rfl
  obtain ⟨c2, y2, e2, t2, w2⟩ := hf 2 9 rfl
  obtain ⟨c3, y3, e3, t3, w3⟩ := hf 3 23 rfl
  obtain ⟨c4, y4, e4, t4, w4⟩ := hf 4 24 rfl
  obtain ⟨k0, hk0, r0⟩ := (RdAt.int u3).one (fun _ => ⟨rfl, rfl⟩) t0 w0
  obtain ⟨k1, hk1, r1⟩ := (RdAt.int u3).one (fun _ => ⟨rfl, rfl⟩) t1 w1
  obtain ⟨s2, hs2, r2⟩ := (RdAt.string u9).one (fun _ => ⟨rfl, rfl⟩) t2 w2
  obtain ⟨l3, hl3, r3⟩ := (rd_strs m).one (fun _ => ⟨rfl, rfl⟩) t3 w3
  obtain ⟨l, hlx, r4⟩ := ih.one (fun _ => ⟨rfl, rfl⟩) t4 w4
  refine ⟨.mk k0 k1 s2 l3 l ⟨wf_i64 hk0, wf_i64 hk1⟩, by simp only [mxV]; omega, .agg #[c0, c1, c2, c3, c4], (list5 hl e0 e1 e2 e3 e4).symm, ?_⟩
  rw [valv_eq]
  simp only [Rep]
  exact ⟨_, rfl, Reps.cons'.2 ⟨r0, Reps.cons'.2 ⟨r1, Reps.cons'.2 ⟨r2, Reps.cons'.2 ⟨r3, Reps.cons'.2 ⟨r4, Reps.nil.2 rfl⟩⟩⟩⟩⟩⟩
theorem rd_vals : ∀ (n : Nat), RdAt enc E0.P W n 24 (fun l : List Val => .sl .unk (l.map valv)) (fun l => mxVs l ≤ reachBytes)
  | 0 => RdAt.zero
  | 1 => (RdAt.slice (ok := fun s => mxV s ≤ reachBytes) uVals kVal.1 kVal.2 RdAt.zero).mono fun l h => mxVs_of h.1 h.2
  | n + 2 => (RdAt.slice uVals kVal.1 kVal.2 (rd_val_of (rd_vals n))).mono fun l h => mxVs_of h.1 h.2


theorem rd_val : ∀ (n : Nat), RdAt enc E0.P W n 26 valv (fun s => mxV s ≤ reachBytes)
  | 0 => RdAt.zero
  | n + 1 => rd_val_of (rd_vals n)

theorem uRgs : E0.P.underlying 39 = some (.slice 80) := by kernel_rfl
theorem uInts : E0.P.underlying 41 = some (.slice 3) := by kernel_rfl
theorem uFlds : E0.P.underlying 40 = some (.slice 45) := by kernel_rfl
theorem uDscs : E0.P.underlying 22 = some (.slice 43) := by kernel_rfl
theorem kRg : 0 < E0.P.cellsOf 80 ∧ 0 < E0.P.bytesOf 80 := ⟨of_decide_eq_true (by kernel_rfl), of_decide_eq_true (by kernel_rfl)⟩
theorem kInt : 0 < E0.P.cellsOf 3 ∧ 0 < E0.P.bytesOf 3 := ⟨of_decide_eq_true (by kernel_rfl), of_decide_eq_true (by kernel_rfl)⟩
theorem kFld : 0 < E0.P.cellsOf 45 ∧ 0 < E0.P.bytesOf 45 := ⟨of_decide_eq_true (by kernel_rfl), of_decide_eq_true (by kernel_rfl)⟩
theorem kDsc : 0 < E0.P.cellsOf 43 ∧ 0 < E0.P.bytesOf 43 := ⟨of_decide_eq_true (by kernel_rfl), of_decide_eq_true (by kernel_rfl)⟩
theorem sRg : fieldsIs E0.P 80 2 [(3, 0, 1), (3, 1, 1)] = true := by kernel_rfl
theorem sFld : fieldsIs E0.P 45 4 [(9, 0, 1), (3, 1, 1), (4, 2, 1), (24, 3, 1)] = true := by kernel_rfl
theorem sDsc : fieldsIs E0.P 43 12 [(3, 0, 1), (4, 1, 1), (39, 2, 1), (3, 3, 1), (3, 4, 1), (9, 5, 1), (23, 6, 1), (23, 7, 1), (40, 8, 1), (40, 9, 1), (41, 10, 1), (3, 11, 1)] = true := by kernel_rfl
theorem rd_rg : ∀ (n : Nat), RdAt enc E0.P W n 80 rgv (fun _ => True)
  | 0 => RdAt.zero
  | n + 1 => fun cs x h hw => by
    obtain ⟨m', hm, hl, hf⟩ := trod_fields sRg h hw
    obtain rfl : n = m' := Nat.succ.inj hm
    obtain ⟨y0, t0, w0⟩ := hf 0 _ _ _ rfl
    obtain ⟨y1, t1, w1⟩ := hf 1 _ _ _ rfl
    obtain ⟨a0, k0, r0⟩ := rd_piece (RdAt.int u3) (fun _ => rfl) t0 w0
    obtain ⟨a1, k1, r1⟩ := rd_piece (RdAt.int u3) (fun _ => rfl) t1 w1
    have e : Reps W (Gh.all W) 0 [] (cs.drop 2) := by rw [List.drop_eq_nil_of_le (by omega)]; exact Reps.nil.2 rfl
    have g := reps_glue r0 <| reps_glue r1 e
    rw [List.drop_zero] at g
    refine ⟨⟨a0, a1, wf_i64 k0, wf_i64 k1⟩, trivial, .agg cs.toArray, by simp [Value.cells], ?_⟩
    rw [rgv_eq]
    simp only [Rep]
    exact ⟨_, rfl, g⟩
theorem rd_rgs : ∀ (n : Nat), RdAt enc E0.P W n 39 (fun l : List Rg => .sl .unk (l.map rgv)) (fun l => l.length ≤ reachBytes)
  | 0 => RdAt.zero
  | n + 1 => (RdAt.slice uRgs kRg.1 kRg.2 (rd_rg n)).mono fun l h => h.1
theorem rd_ints : ∀ (n : Nat), RdAt enc E0.P W n 41 (fun l : List Int => .sl .unk (l.map fun x => .lit (.int .i64 x))) (fun l => l.length ≤ reachBytes ∧ ∀ x, x ∈ l → InR x)
  | 0 => RdAt.zero
  | n + 1 => (RdAt.slice uInts kInt.1 kInt.2 (RdAt.int u3)).mono fun l h => ⟨h.1, fun x hx => wf_i64 (h.2 x hx)⟩
def okF (f : Fld) : Prop := f.name.size ≤ reachBytes ∧ mxVs f.dfl ≤ reachBytes
theorem rd_fld : ∀ (n : Nat), RdAt enc E0.P W n 45 fldv okF
  | 0 => RdAt.zero
  | n + 1 => fun cs x h hw => by
    obtain ⟨m', hm, hl, hf⟩ := trod_fields sFld h hw
    obtain rfl : n = m' := Nat.succ.inj hm
    obtain ⟨y0, t0, w0⟩ := hf 0 _ _ _ rfl
    obtain ⟨y1, t1, w1⟩ := hf 1 _ _ _ rfl
    obtain ⟨y2, t2, w2⟩ := hf 2 _ _ _ rfl
    obtain ⟨y3, t3, w3⟩ := hf 3 _ _ _ rfl
    obtain ⟨a0, k0, r0⟩ := rd_piece (RdAt.string u9) (fun _ => rfl) t0 w0
    obtain ⟨a1, k1, r1⟩ := rd_piece (RdAt.int u3) (fun _ => rfl) t1 w1
    obtain ⟨a2, k2, r2⟩ := rd_piece (RdAt.bool u4) (fun _ => rfl) t2 w2
    obtain ⟨a3, k3, r3⟩ := rd_piece (rd_vals n) (fun _ => rfl) t3 w3
    have e : Reps W (Gh.all W) 0 [] (cs.drop 4) := by rw [List.drop_eq_nil_of_le (by omega)]; exact Reps.nil.2 rfl
    have g := reps_glue r0 <| reps_glue r1 <| reps_glue r2 <| reps_glue r3 e
    rw [List.drop_zero] at g
    refine ⟨⟨a0, a1, a2, a3, wf_i64 k1⟩, ⟨k0, k3⟩, .agg cs.toArray, by simp [Value.cells], ?_⟩
    rw [fldv_eq]
    simp only [Rep]
    exact ⟨_, rfl, g⟩
theorem rd_flds : ∀ (n : Nat), RdAt enc E0.P W n 40 (fun l : List Fld => .sl .unk (l.map fldv)) (fun l => l.length ≤ reachBytes ∧ ∀ f, f ∈ l → okF f)
  | 0 => RdAt.zero
  | n + 1 => RdAt.slice uFlds kFld.1 kFld.2 (rd_fld n)
def okD (r : Dsc) : Prop := r.set.length ≤ reachBytes ∧ r.frm.size ≤ reachBytes ∧ r.names.length ≤ reachBytes ∧ r.more.length ≤ reachBytes ∧ r.parts.length ≤ reachBytes ∧ r.adds.length ≤ reachBytes ∧ r.order.length ≤ reachBytes ∧ ∀ f, f ∈ r.fields → okF f
theorem rd_dsc : ∀ (n : Nat), RdAt enc E0.P W n 43 dscv okD
  | 0 => RdAt.zero
  | n + 1 => fun cs x h hw => by
    obtain ⟨m', hm, hl, hf⟩ := trod_fields sDsc h hw
    obtain rfl : n = m' := Nat.succ.inj hm
    obtain ⟨y0, t0, w0⟩ := hf 0 _ _ _ rfl
    obtain ⟨y1, t1, w1⟩ := hf 1 _ _ _ rfl
    obtain ⟨y2, t2, w2⟩ := hf 2 _ _ _ rfl
    obtain ⟨y3, t3, w3⟩ := hf 3 _ _ _ rfl
    obtain ⟨y4, t4, w4⟩ := hf 4 _ _ _ rfl
    obtain ⟨y5, t5, w5⟩ := hf 5 _ _ _ rfl
    obtain ⟨y6, t6, w6⟩ := hf 6 _ _ _ rfl
    obtain ⟨y7, t7, w7⟩ := hf 7 _ _ _ rfl
    obtain ⟨y8, t8, w8⟩ := hf 8 _ _ _ rfl
    obtain ⟨y9, t9, w9⟩ := hf 9 _ _ _ rfl
    obtain ⟨y10, t10, w10⟩ := hf 10 _ _ _ rfl
    obtain ⟨y11, t11, w11⟩ := hf 11 _ _ _ rfl
    obtain ⟨a0, k0, r0⟩ := rd_piece (RdAt.int u3) (fun _ => rfl) t0 w0
    obtain ⟨a1, k1, r1⟩ := rd_piece (RdAt.bool u4) (fun _ => rfl) t1 w1
    obtain ⟨a2, k2, r2⟩ := rd_piece (rd_rgs n) (fun _ => rfl) t2 w2
    obtain ⟨a3, k3, r3⟩ := rd_piece (RdAt.int u3) (fun _ => rfl) t3 w3
    obtain ⟨a4, k4, r4⟩ := rd_piece (RdAt.int u3) (fun _ => rfl) t4 w4
    obtain ⟨a5, k5, r5⟩ := rd_piece (RdAt.string u9) (fun _ => rfl) t5 w5
    obtain ⟨a6, k6, r6⟩ := rd_piece (rd_strs n) (fun _ => rfl) t6 w6
    obtain ⟨a7, k7, r7⟩ := rd_piece (rd_strs n) (fun _ => rfl) t7 w7
    obtain ⟨a8, k8, r8⟩ := rd_piece (rd_flds n) (fun _ => rfl) t8 w8
    obtain ⟨a9, k9, r9⟩ := rd_piece (rd_flds n) (fun _ => rfl) t9 w9
    obtain ⟨a10, k10, r10⟩ := rd_piece (rd_ints n) (fun _ => rfl) t10 w10
    obtain ⟨a11, k11, r11⟩ := rd_piece (RdAt.int u3) (fun _ => rfl) t11 w11
    have e : Reps W (Gh.all W) 0 [] (cs.drop 12) := by rw [List.drop_eq_nil_of_le (by omega)]; exact Reps.nil.2 rfl
    have g := reps_glue r0 <| reps_glue r1 <| reps_glue r2 <| reps_glue r3 <| reps_glue r4 <| reps_glue r5 <| reps_glue r6 <| reps_glue r7 <| reps_glue r8 <| reps_glue r9 <| reps_glue r10 <| reps_glue r11 e
    rw [List.drop_zero] at g
    have l6 := mxB_len a6
    have l7 := mxB_len a7
    refine ⟨⟨a0, a1, a2, a3, a4, a5, a6, a7, a8, a9, a10, a11, wf_i64 k0, wf_i64 k3, wf_i64 k4, wf_i64 k11, k10.2⟩, ⟨k2, k5, by simp only; omega, by simp only; omega, k8.1, k9.1, k10.1, fun f hf => ?_⟩, .agg cs.toArray, by simp [Value.cells], ?_⟩
    · rcases List.mem_append.1 hf with hf | hf
      · exact k8.2 f hf
      · exact k9.2 f hf
    · rw [dscv_eq]
      simp only [Rep]
      exact ⟨_, rfl, g⟩
theorem rd_dscs : ∀ (n : Nat), RdAt enc E0.P W n 22 (fun l : List Dsc => .sl .unk (l.map dscv)) (fun l => l.length ≤ reachBytes ∧ ∀ f, f ∈ l → okD f)
  | 0 => RdAt.zero
  | n + 1 => RdAt.slice uDscs kDsc.1 kDsc.2 (rd_dsc n)
end
end Go.Abs.Fr

namespace Go.Abs.Fr
open Go Go.Abs Go.Proofs
set_option linter.unusedSimpArgs false
set_option maxRecDepth 100000

/-- slices.Equal[[]string,string] -/
def ac23 : ACode := (.seq (.region [⟨(some 4), (.move (.const (.bool false))), none⟩]) (.seq (.seq (.region [⟨(some 6), (.move (.tmp 0)), none⟩, ⟨(some 7), (.len false (.tmp 6)), none⟩, ⟨(some 8), (.move (.tmp 1)), none⟩, ⟨(some 9), (.len false (.tmp 8)), none⟩, ⟨(some 10), (.bin .neq (.tmp 7) (.tmp 9)), none⟩]) (.cond (.tmp 10) (.seq (.region [⟨(some 4), (.move (.const (.bool false))), none⟩]) .ret) .skip)) (.seq (.seq (.region [⟨(some 11), (.move (.tmp 0)), none⟩, ⟨(some 12), (.len false (.tmp 11)), none⟩, ⟨(some 13), (.move (.const (.int .i64 0))), none⟩]) (.block 0 (.loop (.seq (.region [⟨(some 14), (.bin .lss (.tmp 13) (.tmp 12)), none⟩]) (.seq (.cond (.tmp 14) .skip (.exit 0)) (.seq (.block 1 (.seq (.region [⟨(some 15), (.move (.tmp 13)), none⟩, ⟨(some 5), (.move (.tmp 15)), none⟩]) (.seq (.draw [⟨(some 16), (.move (.tmp 0)), none⟩, ⟨(some 17), (.move (.tmp 5)), none⟩, ⟨(some 18), (.indexAddr 1 (.tmp 16) (.tmp 17)), none⟩, ⟨(some 19), (.load none (.tmp 18)), none⟩, ⟨(some 20), (.move (.tmp 1)), none⟩, ⟨(some 21), (.move (.tmp 5)), none⟩, ⟨(some 22), (.indexAddr 1 (.tmp 20) (.tmp 21)), none⟩, ⟨(some 23), (.load none (.tmp 22)), none⟩, ⟨(some 24), (.bin .neq (.tmp 19) (.tmp 23)), none⟩]) (.cond (.tmp 24) (.seq (.region [⟨(some 4), (.move (.const (.bool false))), none⟩]) .ret) .skip)))) (.region [⟨(some 25), (.bin .add (.tmp 13) (.const (.int .i64 1))), none⟩, ⟨(some 13), (.move (.tmp 25)), none⟩]))))))) (.seq (.region [⟨(some 4), (.move (.const (.bool true))), none⟩]) .ret))))
theorem c23 : cfn E0.P [] Tryz.f23 = some (ac23, [(.tmp 4)], 26) := by kernel_rfl
/-- slices.EqualFunc[[]spandrel/api.Value,[]spandrel/api.Value,spandrel/api.Value,spandrel/api.Value] -/
def ac24 : ACode := (.seq (.region [⟨(some 6), (.move (.const (.bool false))), none⟩]) (.seq (.seq (.region [⟨(some 10), (.move (.tmp 0)), none⟩, ⟨(some 11), (.len false (.tmp 10)), none⟩, ⟨(some 12), (.move (.tmp 1)), none⟩, ⟨(some 13), (.len false (.tmp 12)), none⟩, ⟨(some 14), (.bin .neq (.tmp 11) (.tmp 13)), none⟩]) (.cond (.tmp 14) (.seq (.region [⟨(some 6), (.move (.const (.bool false))), none⟩]) .ret) .skip)) (.seq (.seq (.region [⟨(some 15), (.move (.tmp 0)), none⟩, ⟨(some 16), (.len false (.tmp 15)), none⟩, ⟨(some 17), (.move (.const (.int .i64 0))), none⟩]) (.block 0 (.loop (.seq (.region [⟨(some 18), (.bin .lss (.tmp 17) (.tmp 16)), none⟩]) (.seq (.cond (.tmp 18) .skip (.exit 0)) (.seq (.block 1 (.seq (.region [⟨(some 19), (.move (.tmp 17)), none⟩, ⟨(some 20), (.indexAddr 5 (.tmp 15) (.tmp 17)), none⟩, ⟨(some 21), (.load (some 5) (.tmp 20)), none⟩, ⟨(some 8), (.alloc [(.lit (.int .i64 0)), (.lit (.int .i64 0)), (.lit (.string (⟨#[]⟩ : ByteArray))), (.sl .full []), (.sl .full [])]), none⟩, ⟨(some 7), (.move (.tmp 19)), none⟩, ⟨none, (.store 5 (.tmp 8) (.tmp 21)), none⟩]) (.seq (.region [⟨(some 22), (.move (.tmp 1)), none⟩, ⟨(some 23), (.move (.tmp 7)), none⟩, ⟨(some 24), (.indexAddr 5 (.tmp 22) (.tmp 23)), none⟩, ⟨(some 25), (.load (some 5) (.tmp 24)), none⟩, ⟨(some 9), (.alloc [(.lit (.int .i64 0)), (.lit (.int .i64 0)), (.lit (.string (⟨#[]⟩ : ByteArray))), (.sl .full []), (.sl .full [])]), none⟩, ⟨none, (.store 5 (.tmp 9) (.tmp 25)), none⟩]) (.seq (.region [⟨(some 26), (.move (.tmp 2)), none⟩, ⟨(some 27), (.load (some 5) (.tmp 8)), none⟩, ⟨(some 28), (.load (some 5) (.tmp 9)), none⟩, ⟨(some 29), (.call (.tmp 26) [((.tmp 27), false), ((.tmp 28), false)]), none⟩, ⟨(some 30), (.un .not (.tmp 29)), none⟩]) (.cond (.tmp 30) (.seq (.region [⟨(some 6), (.move (.const (.bool false))), none⟩]) .ret) .skip))))) (.region [⟨(some 31), (.bin .add (.tmp 17) (.const (.int .i64 1))), none⟩, ⟨(some 17), (.move (.tmp 31)), none⟩]))))))) (.seq (.region [⟨(some 6), (.move (.const (.bool true))), none⟩]) .ret))))
theorem c24 : cfn E0.P [] Tryz.f24 = some (ac24, [(.tmp 6)], 32) := by kernel_rfl
/-- slices.ContainsFunc[[]spandrel/api.Value,spandrel/api.Value] -/
def ac30 : ACode := (.seq (.region [⟨(some 4), (.move (.const (.bool false))), none⟩]) (.seq (.region [⟨(some 5), (.move (.tmp 0)), none⟩, ⟨(some 6), (.move (.tmp 1)), none⟩, ⟨(some 7), (.call (.func 47) [((.tmp 5), false), ((.tmp 6), false)]), none⟩, ⟨(some 8), (.bin .geq (.tmp 7) (.const (.int .i64 0))), none⟩, ⟨(some 4), (.move (.tmp 8)), none⟩]) .ret))
theorem c30 : cfn E0.P [] Tryz.f30 = some (ac30, [(.tmp 4)], 9) := by kernel_rfl
/-- slices.Index[[]string,string] -/
def ac32 : ACode := (.seq (.region [⟨(some 4), (.move (.const (.int .i64 0))), none⟩]) (.seq (.seq (.region [⟨(some 6), (.move (.tmp 0)), none⟩, ⟨(some 7), (.len false (.tmp 6)), none⟩, ⟨(some 8), (.move (.const (.int .i64 0))), none⟩]) (.block 0 (.loop (.seq (.region [⟨(some 9), (.bin .lss (.tmp 8) (.tmp 7)), none⟩]) (.seq (.cond (.tmp 9) .skip (.exit 0)) (.seq (.block 1 (.seq (.region [⟨(some 10), (.move (.tmp 8)), none⟩, ⟨(some 5), (.move (.tmp 10)), none⟩]) (.seq (.region [⟨(some 11), (.move (.tmp 1)), none⟩, ⟨(some 12), (.move (.tmp 0)), none⟩, ⟨(some 13), (.move (.tmp 5)), none⟩, ⟨(some 14), (.indexAddr 1 (.tmp 12) (.tmp 13)), none⟩, ⟨(some 15), (.load none (.tmp 14)), none⟩, ⟨(some 16), (.bin .eql (.tmp 11) (.tmp 15)), none⟩]) (.cond (.tmp 16) (.seq (.region [⟨(some 17), (.move (.tmp 5)), none⟩, ⟨(some 4), (.move (.tmp 17)), none⟩]) .ret) .skip)))) (.region [⟨(some 18), (.bin .add (.tmp 8) (.const (.int .i64 1))), none⟩, ⟨(some 8), (.move (.tmp 18)), none⟩]))))))) (.seq (.region [⟨(some 4), (.move (.const (.int .i64 (-1)))), none⟩]) .ret)))
theorem c32 : cfn E0.P [] Tryz.f32 = some (ac32, [(.tmp 4)], 19) := by kernel_rfl
/-- slices.ContainsFunc[[]spandrel/api.Desc,spandrel/api.Desc] -/
def ac43 : ACode := (.seq (.region [⟨(some 4), (.move (.const (.bool false))), none⟩]) (.seq (.region [⟨(some 5), (.move (.tmp 0)), none⟩, ⟨(some 6), (.move (.tmp 1)), none⟩, ⟨(some 7), (.call (.func 62) [((.tmp 5), false), ((.tmp 6), false)]), none⟩, ⟨(some 8), (.bin .geq (.tmp 7) (.const (.int .i64 0))), none⟩, ⟨(some 4), (.move (.tmp 8)), none⟩]) .ret))
theorem c43 : cfn E0.P [] Tryz.f43 = some (ac43, [(.tmp 4)], 9) := by kernel_rfl
/-- slices.IndexFunc[[]spandrel/api.Value,spandrel/api.Value] -/
def ac47 : ACode := (.seq (.region [⟨(some 4), (.move (.const (.int .i64 0))), none⟩]) (.seq (.seq (.region [⟨(some 6), (.move (.tmp 0)), none⟩, ⟨(some 7), (.len false (.tmp 6)), none⟩, ⟨(some 8), (.move (.const (.int .i64 0))), none⟩]) (.block 0 (.loop (.seq (.region [⟨(some 9), (.bin .lss (.tmp 8) (.tmp 7)), none⟩]) (.seq (.cond (.tmp 9) .skip (.exit 0)) (.seq (.block 1 (.seq (.region [⟨(some 10), (.move (.tmp 8)), none⟩, ⟨(some 5), (.move (.tmp 10)), none⟩]) (.seq (.region [⟨(some 11), (.move (.tmp 1)), none⟩, ⟨(some 12), (.move (.tmp 0)), none⟩, ⟨(some 13), (.move (.tmp 5)), none⟩, ⟨(some 14), (.indexAddr 5 (.tmp 12) (.tmp 13)), none⟩, ⟨(some 15), (.load (some 5) (.tmp 14)), none⟩, ⟨(some 16), (.call (.tmp 11) [((.tmp 15), false)]), none⟩]) (.cond (.tmp 16) (.seq (.region [⟨(some 17), (.move (.tmp 5)), none⟩, ⟨(some 4), (.move (.tmp 17)), none⟩]) .ret) .skip)))) (.region [⟨(some 18), (.bin .add (.tmp 8) (.const (.int .i64 1))), none⟩, ⟨(some 8), (.move (.tmp 18)), none⟩]))))))) (.seq (.region [⟨(some 4), (.move (.const (.int .i64 (-1)))), none⟩]) .ret)))
theorem c47 : cfn E0.P [] Tryz.f47 = some (ac47, [(.tmp 4)], 19) := by kernel_rfl
/-- slices.Contains[[]string,string] -/
def ac57 : ACode := (.seq (.region [⟨(some 4), (.move (.const (.bool false))), none⟩]) (.seq (.region [⟨(some 5), (.move (.tmp 0)), none⟩, ⟨(some 6), (.move (.tmp 1)), none⟩, ⟨(some 7), (.call (.func 32) [((.tmp 5), false), ((.tmp 6), false)]), none⟩, ⟨(some 8), (.bin .geq (.tmp 7) (.const (.int .i64 0))), none⟩, ⟨(some 4), (.move (.tmp 8)), none⟩]) .ret))
theorem c57 : cfn E0.P [] Tryz.f57 = some (ac57, [(.tmp 4)], 9) := by kernel_rfl
/-- slices.IndexFunc[[]spandrel/api.Desc,spandrel/api.Desc] -/
def ac62 : ACode := (.seq (.region [⟨(some 4), (.move (.const (.int .i64 0))), none⟩]) (.seq (.seq (.region [⟨(some 6), (.move (.tmp 0)), none⟩, ⟨(some 7), (.len false (.tmp 6)), none⟩, ⟨(some 8), (.move (.const (.int .i64 0))), none⟩]) (.block 0 (.loop (.seq (.region [⟨(some 9), (.bin .lss (.tmp 8) (.tmp 7)), none⟩]) (.seq (.cond (.tmp 9) .skip (.exit 0)) (.seq (.block 1 (.seq (.region [⟨(some 10), (.move (.tmp 8)), none⟩, ⟨(some 5), (.move (.tmp 10)), none⟩]) (.seq (.region [⟨(some 11), (.move (.tmp 1)), none⟩, ⟨(some 12), (.move (.tmp 0)), none⟩, ⟨(some 13), (.move (.tmp 5)), none⟩, ⟨(some 14), (.indexAddr 12 (.tmp 12) (.tmp 13)), none⟩, ⟨(some 15), (.load (some 12) (.tmp 14)), none⟩, ⟨(some 16), (.call (.tmp 11) [((.tmp 15), false)]), none⟩]) (.cond (.tmp 16) (.seq (.region [⟨(some 17), (.move (.tmp 5)), none⟩, ⟨(some 4), (.move (.tmp 17)), none⟩]) .ret) .skip)))) (.region [⟨(some 18), (.bin .add (.tmp 8) (.const (.int .i64 1))), none⟩, ⟨(some 8), (.move (.tmp 18)), none⟩]))))))) (.seq (.region [⟨(some 4), (.move (.const (.int .i64 (-1)))), none⟩]) .ret)))
theorem c62 : cfn E0.P [] Tryz.f62 = some (ac62, [(.tmp 4)], 19) := by kernel_rfl
/-- slices.ContainsFunc[[]spandrel/api.Range,spandrel/api.Range] -/
def ac70 : ACode := (.seq (.region [⟨(some 4), (.move (.const (.bool false))), none⟩]) (.seq (.region [⟨(some 5), (.move (.tmp 0)), none⟩, ⟨(some 6), (.move (.tmp 1)), none⟩, ⟨(some 7), (.call (.func 89) [((.tmp 5), false), ((.tmp 6), false)]), none⟩, ⟨(some 8), (.bin .geq (.tmp 7) (.const (.int .i64 0))), none⟩, ⟨(some 4), (.move (.tmp 8)), none⟩]) .ret))
theorem c70 : cfn E0.P [] Tryz.f70 = some (ac70, [(.tmp 4)], 9) := by kernel_rfl
/-- slices.IndexFunc[[]spandrel/api.Field,spandrel/api.Field] -/
def ac73 : ACode := (.seq (.region [⟨(some 4), (.move (.const (.int .i64 0))), none⟩]) (.seq (.seq (.region [⟨(some 6), (.move (.tmp 0)), none⟩, ⟨(some 7), (.len false (.tmp 6)), none⟩, ⟨(some 8), (.move (.const (.int .i64 0))), none⟩]) (.block 0 (.loop (.seq (.region [⟨(some 9), (.bin .lss (.tmp 8) (.tmp 7)), none⟩]) (.seq (.cond (.tmp 9) .skip (.exit 0)) (.seq (.block 1 (.seq (.region [⟨(some 10), (.move (.tmp 8)), none⟩, ⟨(some 5), (.move (.tmp 10)), none⟩]) (.seq (.region [⟨(some 11), (.move (.tmp 1)), none⟩, ⟨(some 12), (.move (.tmp 0)), none⟩, ⟨(some 13), (.move (.tmp 5)), none⟩, ⟨(some 14), (.indexAddr 4 (.tmp 12) (.tmp 13)), none⟩, ⟨(some 15), (.load (some 4) (.tmp 14)), none⟩, ⟨(some 16), (.call (.tmp 11) [((.tmp 15), false)]), none⟩]) (.cond (.tmp 16) (.seq (.region [⟨(some 17), (.move (.tmp 5)), none⟩, ⟨(some 4), (.move (.tmp 17)), none⟩]) .ret) .skip)))) (.region [⟨(some 18), (.bin .add (.tmp 8) (.const (.int .i64 1))), none⟩, ⟨(some 8), (.move (.tmp 18)), none⟩]))))))) (.seq (.region [⟨(some 4), (.move (.const (.int .i64 (-1)))), none⟩]) .ret)))
theorem c73 : cfn E0.P [] Tryz.f73 = some (ac73, [(.tmp 4)], 19) := by kernel_rfl
/-- slices.ContainsFunc[[]spandrel/api.Field,spandrel/api.Field] -/
def ac80 : ACode := (.seq (.region [⟨(some 4), (.move (.const (.bool false))), none⟩]) (.seq (.region [⟨(some 5), (.move (.tmp 0)), none⟩, ⟨(some 6), (.move (.tmp 1)), none⟩, ⟨(some 7), (.call (.func 73) [((.tmp 5), false), ((.tmp 6), false)]), none⟩, ⟨(some 8), (.bin .geq (.tmp 7) (.const (.int .i64 0))), none⟩, ⟨(some 4), (.move (.tmp 8)), none⟩]) .ret))
theorem c80 : cfn E0.P [] Tryz.f80 = some (ac80, [(.tmp 4)], 9) := by kernel_rfl
/-- slices.IndexFunc[[]spandrel/api.Range,spandrel/api.Range] -/
def ac89 : ACode := (.seq (.region [⟨(some 4), (.move (.const (.int .i64 0))), none⟩]) (.seq (.seq (.region [⟨(some 6), (.move (.tmp 0)), none⟩, ⟨(some 7), (.len false (.tmp 6)), none⟩, ⟨(some 8), (.move (.const (.int .i64 0))), none⟩]) (.block 0 (.loop (.seq (.region [⟨(some 9), (.bin .lss (.tmp 8) (.tmp 7)), none⟩]) (.seq (.cond (.tmp 9) .skip (.exit 0)) (.seq (.block 1 (.seq (.region [⟨(some 10), (.move (.tmp 8)), none⟩, ⟨(some 5), (.move (.tmp 10)), none⟩]) (.seq (.region [⟨(some 11), (.move (.tmp 1)), none⟩, ⟨(some 12), (.move (.tmp 0)), none⟩, ⟨(some 13), (.move (.tmp 5)), none⟩, ⟨(some 14), (.indexAddr 2 (.tmp 12) (.tmp 13)), none⟩, ⟨(some 15), (.load (some 2) (.tmp 14)), none⟩, ⟨(some 16), (.call (.tmp 11) [((.tmp 15), false)]), none⟩]) (.cond (.tmp 16) (.seq (.region [⟨(some 17), (.move (.tmp 5)), none⟩, ⟨(some 4), (.move (.tmp 17)), none⟩]) .ret) .skip)))) (.region [⟨(some 18), (.bin .add (.tmp 8) (.const (.int .i64 1))), none⟩, ⟨(some 8), (.move (.tmp 18)), none⟩]))))))) (.seq (.region [⟨(some 4), (.move (.const (.int .i64 (-1)))), none⟩]) .ret)))
theorem c89 : cfn E0.P [] Tryz.f89 = some (ac89, [(.tmp 4)], 19) := by kernel_rfl

theorem vals_equal (l r : List Val) (p : Val → Val → Bool) (h : List AObj) (hl : l.length < 2 ^ 60) (hr : r.length < 2 ^ 60) (f : FuncId)
    (hp : ∀ a b, a ∈ l → b ∈ r → ∀ h', EvR E0 f [valv a, valv b] h' (boolv (p a b))) : EvR E0 24 [.sl .unk (l.map valv), .sl .unk (r.map valv), .fn (.func f) [] []] h (boolv (all2 p l r)) := by
  refine ev_of (fn := Tryz.f24) (hs := []) Tryz.func24 c24 (by simp) fun hcl => ?_
  generalize hR : all2 p l r = R
  have d0 : decide ((l.length : Int) = (r.length : Int)) = decide (l.length = r.length) := by rw [decide_eq_decide]; omega
  cases dl : decide (l.length = r.length)
  · simp only [ac24, List.length_map, d0, dl, ↓awD, awP, Nat.reduceLeDiff, Nat.reduceEqDiff, Nat.reduceAdd, Nat.zero_add, Int.cast_ofNat_Int, Int.reduceLT, Int.reduceLE, Int.reduceEq]
    rw [decide_eq_false_iff_not] at dl
    rw [all2_len dl] at hR
    subst hR
    exact Fin.same0 hcl rfl ⟨rfl, rfl⟩
  · simp only [ac24, List.length_map, d0, dl, ↓awD, awP, Nat.reduceLeDiff, Nat.reduceEqDiff, Nat.reduceAdd, Nat.zero_add, Int.cast_ofNat_Int, Int.reduceLT, Int.reduceLE, Int.reduceEq]
    rw [decide_eq_true_eq] at dl
    refine LoopF.list l hl (γ := List AObj) (fun i J => ⟨[(1, .sl .unk (r.map valv)), (2, .fn (.func f) [] []), (15, .sl .unk (l.map valv)), (16, i64 l.length), (17, i64 i)], h ++ J⟩)
      (fun i _ => all2 p (l.drop i) (r.drop i) = R) [] (by simpa using hR) (weak_of (by simp) (by simp [look])) ?_ ?_
    · rintro i a J ha h2 hi e1 w3
      obtain ⟨b, hb⟩ : ∃ b, r[i]? = some b := ⟨_, List.getElem?_eq_getElem (by omega)⟩
      have hga := map_get valv l i a ha
      have hgb := map_get valv r i b hb
      have hpp := hp a b (List.mem_of_getElem? ha) (List.mem_of_getElem? hb)
      simp only [valv_eq] at hpp
      rw [drop_get ha, drop_get hb] at h2
      simp only [all2] at h2
      simp only [e1, List.length_map, ↓awD, awP, Nat.reduceLeDiff, Nat.reduceEqDiff, Nat.reduceAdd, Nat.zero_add, Int.cast_ofNat_Int, Int.reduceLT, Int.reduceLE, Int.reduceEq]
      refine Need.mk ⟨by omega, by first | omega | (simp; omega)⟩ (Elem.recs hga (by first | (rw [valv_eq]; exact ⟨rfl, rfl⟩) | exact ⟨rfl, rfl⟩) ?_)
      simp only [valv_eq, getJ, setJ, aw20, List.take_succ_cons, List.take_zero, List.drop_zero, List.drop_succ_cons, List.length_map, ↓awD, awP, Nat.reduceLeDiff, Nat.reduceEqDiff, Nat.reduceAdd, Nat.zero_add, Int.cast_ofNat_Int, Int.reduceLT, Int.reduceLE, Int.reduceEq]
      refine Need.mk ⟨by omega, by first | omega | (simp; omega)⟩ (Elem.recs hgb (by first | (rw [valv_eq]; exact ⟨rfl, rfl⟩) | exact ⟨rfl, rfl⟩) ?_)
      simp only [valv_eq, getK, getK1, setK1, aw20, List.take_succ_cons, List.take_zero, List.drop_zero, List.drop_succ_cons, List.length_map, ↓awD, awP, Nat.reduceLeDiff, Nat.reduceEqDiff, Nat.reduceAdd, Nat.zero_add, Int.cast_ofNat_Int, Int.reduceLT, Int.reduceLE, Int.reduceEq]
      refine EvF.ret (hpp _) ?_
      cases hx : p a b
      · rw [hx, Bool.false_and] at h2
        subst h2
        simp only [↓awD, awP, Nat.reduceLeDiff, Nat.reduceEqDiff, Nat.reduceAdd, Nat.zero_add, Int.cast_ofNat_Int, Int.reduceLT, Int.reduceLE, Int.reduceEq]
        exact Fin.sameJ hcl rfl ⟨rfl, rfl⟩ (asc3 ..)
      · rw [hx, Bool.true_and] at h2
        simp only [w3, ↓awD, awP, Nat.reduceLeDiff, Nat.reduceEqDiff, Nat.reduceAdd, Nat.zero_add, Int.cast_ofNat_Int, Int.reduceLT, Int.reduceLE, Int.reduceEq]
        exact ⟨(i + 1, J ++ [_] ++ [_]), ⟨by simp only; omega, h2⟩, by simp only; omega, weak_of (asc3 ..).symm (by simp [look])⟩
    · rintro J h2 e1
      rw [List.drop_eq_nil_of_le (by omega), List.drop_eq_nil_of_le (by omega)] at h2
      simp only [all2] at h2
      subst h2
      simp only [e1, List.length_map, ↓awD, awP, Nat.reduceLeDiff, Nat.reduceEqDiff, Nat.reduceAdd, Nat.zero_add, Int.cast_ofNat_Int, Int.reduceLT, Int.reduceLE, Int.reduceEq]
      exact Fin.same hcl rfl ⟨rfl, rfl⟩

def eqStr (a b : ByteArray) : Bool := decide (a = b)
theorem all2_strs (l r : List ByteArray) : all2 eqStr l r = decide (l = r) := by
  rw [Bool.eq_iff_iff, decide_eq_true_eq]
  exact all2_iff fun x _ y => by simp [eqStr]
theorem strs_equal (l r : List ByteArray) (h : List AObj) (hl : l.length < 2 ^ 60) (hr : r.length < 2 ^ 60) : EvR E0 23 [strl l, strl r] h (boolv (decide (l = r))) := by
  rw [← all2_strs]
  refine ev_of (fn := Tryz.f23) (hs := []) Tryz.func23 c23 (by simp) fun hcl => ?_
  generalize hR : all2 eqStr l r = R
  have d0 : decide ((l.length : Int) = (r.length : Int)) = decide (l.length = r.length) := by rw [decide_eq_decide]; omega
  cases dl : decide (l.length = r.length)
  · simp only [ac23, List.length_map, d0, dl, ↓awD, awP, Nat.reduceLeDiff, Nat.reduceEqDiff, Nat.reduceAdd, Nat.zero_add, Int.cast_ofNat_Int, Int.reduceLT, Int.reduceLE, Int.reduceEq]
    rw [decide_eq_false_iff_not] at dl
    rw [all2_len dl] at hR
    subst hR
    exact Fin.same0 hcl rfl ⟨rfl, rfl⟩
  · simp only [ac23, List.length_map, d0, dl, ↓awD, awP, Nat.reduceLeDiff, Nat.reduceEqDiff, Nat.reduceAdd, Nat.zero_add, Int.cast_ofNat_Int, Int.reduceLT, Int.reduceLE, Int.reduceEq]
    rw [decide_eq_true_eq] at dl
    refine LoopF.list l hl (γ := Unit) (fun i _ => ⟨[(0, strl l), (1, strl r), (12, i64 l.length), (13, i64 i)], h⟩)
      (fun i _ => all2 eqStr (l.drop i) (r.drop i) = R) () (by simpa using hR) (weak_of rfl (by simp [look])) ?_ ?_
    · rintro i a _ ha h2 hi e1 w3
      obtain ⟨b, hb⟩ : ∃ b, r[i]? = some b := ⟨_, List.getElem?_eq_getElem (by omega)⟩
      have hga := map_get str l i a ha
      have hgb := map_get str r i b hb
      rw [drop_get ha, drop_get hb] at h2
      simp only [all2, eqStr] at h2
      simp only [e1, List.length_map, ↓awD, awP, Nat.reduceLeDiff, Nat.reduceEqDiff, Nat.reduceAdd, Nat.zero_add, Int.cast_ofNat_Int, Int.reduceLT, Int.reduceLE, Int.reduceEq]
      refine Need.mk ⟨by omega, by first | omega | (simp; omega)⟩ (Elem.recs hga ⟨rfl, rfl⟩ ?_)
      simp only [List.length_map, aw20, List.take_succ_cons, List.take_zero, List.drop_zero, List.drop_succ_cons, List.length_map, ↓awD, awP, Nat.reduceLeDiff, Nat.reduceEqDiff, Nat.reduceAdd, Nat.zero_add, Int.cast_ofNat_Int, Int.reduceLT, Int.reduceLE, Int.reduceEq]
      refine Need.mk ⟨by omega, by first | omega | (simp; omega)⟩ (Elem.recs hgb ⟨rfl, rfl⟩ ?_)
      simp only [w3, aw20, List.take_succ_cons, List.take_zero, List.drop_zero, List.drop_succ_cons, List.length_map, ↓awD, awP, Nat.reduceLeDiff, Nat.reduceEqDiff, Nat.reduceAdd, Nat.zero_add, Int.cast_ofNat_Int, Int.reduceLT, Int.reduceLE, Int.reduceEq]
      cases he : decide (a = b)
      · simp only [he, Bool.false_and] at h2
        simp only [aw20, List.take_succ_cons, List.take_zero, List.drop_zero, List.drop_succ_cons, List.length_map, ↓awD, awP, Nat.reduceLeDiff, Nat.reduceEqDiff, Nat.reduceAdd, Nat.zero_add, Int.cast_ofNat_Int, Int.reduceLT, Int.reduceLE, Int.reduceEq]
        exact Fin.same0 hcl rfl ⟨by rw [← h2], rfl⟩
      · simp only [he, Bool.true_and] at h2
        simp only [w3, aw20, List.take_succ_cons, List.take_zero, List.drop_zero, List.drop_succ_cons, List.length_map, ↓awD, awP, Nat.reduceLeDiff, Nat.reduceEqDiff, Nat.reduceAdd, Nat.zero_add, Int.cast_ofNat_Int, Int.reduceLT, Int.reduceLE, Int.reduceEq]
        exact ⟨(i + 1, ()), ⟨hi, h2⟩, by simp only; omega, weak_of (rfl) (by simp [look])⟩
    · rintro _ h2 e1
      rw [List.drop_eq_nil_of_le (by omega), List.drop_eq_nil_of_le (by omega)] at h2
      simp only [all2] at h2
      subst h2
      simp only [e1, List.length_map, ↓awD, awP, Nat.reduceLeDiff, Nat.reduceEqDiff, Nat.reduceAdd, Nat.zero_add, Int.cast_ofNat_Int, Int.reduceLT, Int.reduceLE, Int.reduceEq]
      exact Fin.same0 hcl rfl ⟨rfl, rfl⟩

theorem strs_index (l : List ByteArray) (s : ByteArray) (h : List AObj) (hl : l.length < 2 ^ 60) : EvR E0 32 [strl l, str s] h (i64 (idx (fun x => decide (s = x)) l 0)) := by
  refine ev_of (fn := Tryz.f32) (hs := []) Tryz.func32 c32 (by simp) fun hcl => ?_
  generalize hR : idx (fun x => decide (s = x)) l 0 = R
  simp only [ac32, aw20, List.take_succ_cons, List.take_zero, List.drop_zero, List.drop_succ_cons, List.length_map, ↓awD, awP, Nat.reduceLeDiff, Nat.reduceEqDiff, Nat.reduceAdd, Nat.zero_add, Int.cast_ofNat_Int, Int.reduceLT, Int.reduceLE, Int.reduceEq]
  refine LoopF.list l hl (γ := Unit) (fun i _ => ⟨[(0, strl l), (1, str s), (6, strl l), (7, i64 l.length), (8, i64 i)], h⟩) (fun i _ => idx (fun x => decide (s = x)) (l.drop i) i = R) () (by simpa using hR) (weak_of rfl (by simp [look])) ?_ ?_
  · rintro i a _ ha hv hi e1 w3
    rw [drop_get ha] at hv
    unfold idx at hv
    have hga := map_get str l i a ha
    simp only [e1, w3, aw20, List.take_succ_cons, List.take_zero, List.drop_zero, List.drop_succ_cons, List.length_map, ↓awD, awP, Nat.reduceLeDiff, Nat.reduceEqDiff, Nat.reduceAdd, Nat.zero_add, Int.cast_ofNat_Int, Int.reduceLT, Int.reduceLE, Int.reduceEq]
    repeat' (first | ((first | refine Need.mk (by first | (first | omega | (simp only [decide_eq_true_eq, decide_eq_false_iff_not, Bool.and_eq_true, Bool.not_eq_true', Bool.not_eq_false', List.length_map] at *; omega) | (simp; omega)) | (constructor <;> (first | omega | (simp only [decide_eq_true_eq, decide_eq_false_iff_not, Bool.and_eq_true, Bool.not_eq_true', Bool.not_eq_false', List.length_map] at *; omega) | (simp; omega)))) (Elem.recs hga (by first | (rw [str]; exact ⟨rfl, rfl⟩) | exact ⟨rfl, rfl⟩) ?_) | refine Elem.recs hga (by first | (rw [str]; exact ⟨rfl, rfl⟩) | exact ⟨rfl, rfl⟩) ?_); simp only [str, w3, aw21, aw20, List.take_succ_cons, List.take_zero, List.drop_zero, List.drop_succ_cons, List.length_map, ↓awD, awP, Nat.reduceLeDiff, Nat.reduceEqDiff, Nat.reduceAdd, Nat.zero_add, Int.cast_ofNat_Int, Int.reduceLT, Int.reduceLE, Int.reduceEq]) | (refine BrF.mk (fun hb => ?_) (fun hb => ?_) <;> (try rw [hb]) <;> simp only [w3, aw21, aw20, List.take_succ_cons, List.take_zero, List.drop_zero, List.drop_succ_cons, List.length_map, ↓awD, awP, Nat.reduceLeDiff, Nat.reduceEqDiff, Nat.reduceAdd, Nat.zero_add, Int.cast_ofNat_Int, Int.reduceLT, Int.reduceLE, Int.reduceEq]))
    all_goals (simp only [*, if_true, if_false, Bool.false_eq_true] at hv)
    · subst hv; exact Fin.end hcl rfl (by first | rfl | exact (List.append_nil _).symm | (simp only [List.append_assoc]; rfl)) ⟨rfl, rfl⟩
    · exact ⟨(i + 1, ()), ⟨hi, hv⟩, by simp only; omega, weak_of (rfl) (by simp [look])⟩
  · rintro _ hv e1
    rw [drop_len] at hv
    unfold idx at hv
    subst hv
    simp only [e1, aw20, List.take_succ_cons, List.take_zero, List.drop_zero, List.drop_succ_cons, List.length_map, ↓awD, awP, Nat.reduceLeDiff, Nat.reduceEqDiff, Nat.reduceAdd, Nat.zero_add, Int.cast_ofNat_Int, Int.reduceLT, Int.reduceLE, Int.reduceEq]
    exact Fin.end hcl rfl (by first | rfl | exact (List.append_nil _).symm | (simp only [List.append_assoc]; rfl)) ⟨rfl, rfl⟩
theorem strs_has (l : List ByteArray) (s : ByteArray) (h : List AObj) (hl : l.length < 2 ^ 60) : EvR E0 57 [strl l, str s] h (boolv (l.any (fun x => decide (s = x)))) := by
  refine ev_of (fn := Tryz.f57) (hs := []) Tryz.func57 c57 (by simp) fun hcl => ?_
  simp only [ac57, ↓awD, awP, Nat.reduceLeDiff, Nat.reduceEqDiff, Nat.reduceAdd, Nat.zero_add, Int.cast_ofNat_Int, Int.reduceLT, Int.reduceLE, Int.reduceEq]
  refine EvF.ret (strs_index l s h hl) ?_
  simp only [idx_any, ↓awD, awP, Nat.reduceLeDiff, Nat.reduceEqDiff, Nat.reduceAdd, Nat.zero_add, Int.cast_ofNat_Int, Int.reduceLT, Int.reduceLE, Int.reduceEq]
  exact Fin.same0 hcl rfl ⟨rfl, rfl⟩

theorem val_idx (l : List Val) (f : FuncId) (caps : List AV) (p : Val → Bool) (h : List AObj) (hl : l.length < 2 ^ 60) (hp : ∀ s, s ∈ l → EvR E0 f (valv s :: caps.map AV.strip) h (boolv (p s))) :
    EvR E0 47 [.sl .unk (l.map valv), .fn (.func f) [] caps] h (i64 (idx p l 0)) := by
  refine ev_of (fn := Tryz.f47) (hs := []) Tryz.func47 c47 (by simp) fun hcl => ?_
  generalize hR : idx p l 0 = R
  simp only [ac47, aw20, List.take_succ_cons, List.take_zero, List.drop_zero, List.drop_succ_cons, List.length_map, ↓awD, awP, Nat.reduceLeDiff, Nat.reduceEqDiff, Nat.reduceAdd, Nat.zero_add, Int.cast_ofNat_Int, Int.reduceLT, Int.reduceLE, Int.reduceEq]
  refine LoopF.list l hl (γ := Unit) (fun i _ => ⟨[(0, .sl .unk (l.map valv)), (1, .fn (.func f) [] caps), (6, .sl .unk (l.map valv)), (7, i64 l.length), (8, i64 i)], h⟩) (fun i _ => idx p (l.drop i) i = R) () (by simpa using hR) (weak_of rfl (by simp [look])) ?_ ?_
  · rintro i a _ ha hv hi e1 w3
    rw [drop_get ha] at hv
    unfold idx at hv
    have hga := map_get valv l i a ha
    have hpa := hp a (List.mem_of_getElem? ha)
    simp only [valv_eq] at hpa
    simp only [e1, w3, aw20, List.take_succ_cons, List.take_zero, List.drop_zero, List.drop_succ_cons, List.length_map, ↓awD, awP, Nat.reduceLeDiff, Nat.reduceEqDiff, Nat.reduceAdd, Nat.zero_add, Int.cast_ofNat_Int, Int.reduceLT, Int.reduceLE, Int.reduceEq]
    repeat' (first | ((first | refine Need.mk (by first | (first | omega | (simp only [decide_eq_true_eq, decide_eq_false_iff_not, Bool.and_eq_true, Bool.not_eq_true', Bool.not_eq_false', List.length_map] at *; omega) | (simp; omega)) | (constructor <;> (first | omega | (simp only [decide_eq_true_eq, decide_eq_false_iff_not, Bool.and_eq_true, Bool.not_eq_true', Bool.not_eq_false', List.length_map] at *; omega) | (simp; omega)))) (Elem.recs hga (by first | (rw [valv_eq]; exact ⟨rfl, rfl⟩) | exact ⟨rfl, rfl⟩) ?_) | refine Elem.recs hga (by first | (rw [valv_eq]; exact ⟨rfl, rfl⟩) | exact ⟨rfl, rfl⟩) ?_); simp only [valv_eq, w3, aw21, aw20, List.take_succ_cons, List.take_zero, List.drop_zero, List.drop_succ_cons, List.length_map, ↓awD, awP, Nat.reduceLeDiff, Nat.reduceEqDiff, Nat.reduceAdd, Nat.zero_add, Int.cast_ofNat_Int, Int.reduceLT, Int.reduceLE, Int.reduceEq]) | ((first | refine EvF.ret (hpa) ?_ | refine EvRF.ret (hpa) ?_); simp only [w3, aw21, aw20, List.take_succ_cons, List.take_zero, List.drop_zero, List.drop_succ_cons, List.length_map, ↓awD, awP, Nat.reduceLeDiff, Nat.reduceEqDiff, Nat.reduceAdd, Nat.zero_add, Int.cast_ofNat_Int, Int.reduceLT, Int.reduceLE, Int.reduceEq]) | (refine BrF.mk (fun hb => ?_) (fun hb => ?_) <;> (try rw [hb]) <;> simp only [w3, aw21, aw20, List.take_succ_cons, List.take_zero, List.drop_zero, List.drop_succ_cons, List.length_map, ↓awD, awP, Nat.reduceLeDiff, Nat.reduceEqDiff, Nat.reduceAdd, Nat.zero_add, Int.cast_ofNat_Int, Int.reduceLT, Int.reduceLE, Int.reduceEq]))
    all_goals (simp only [*, if_true, if_false, Bool.false_eq_true] at hv)
    · subst hv; exact Fin.end hcl rfl (by first | rfl | exact (List.append_nil _).symm | (simp only [List.append_assoc]; rfl)) ⟨rfl, rfl⟩
    · exact ⟨(i + 1, ()), ⟨hi, hv⟩, by simp only; omega, weak_of (rfl) (by simp [look])⟩
  · rintro _ hv e1
    rw [drop_len] at hv
    unfold idx at hv
    subst hv
    simp only [e1, aw20, List.take_succ_cons, List.take_zero, List.drop_zero, List.drop_succ_cons, List.length_map, ↓awD, awP, Nat.reduceLeDiff, Nat.reduceEqDiff, Nat.reduceAdd, Nat.zero_add, Int.cast_ofNat_Int, Int.reduceLT, Int.reduceLE, Int.reduceEq]
    exact Fin.end hcl rfl (by first | rfl | exact (List.append_nil _).symm | (simp only [List.append_assoc]; rfl)) ⟨rfl, rfl⟩
theorem val_any (l : List Val) (f : FuncId) (caps : List AV) (p : Val → Bool) (h : List AObj) (hl : l.length < 2 ^ 60) (hp : ∀ s, s ∈ l → EvR E0 f (valv s :: caps.map AV.strip) h (boolv (p s))) :
    EvR E0 30 [.sl .unk (l.map valv), .fn (.func f) [] caps] h (boolv (l.any p)) := by
  refine ev_of (fn := Tryz.f30) (hs := []) Tryz.func30 c30 (by simp) fun hcl => ?_
  simp only [ac30, ↓awD, awP, Nat.reduceLeDiff, Nat.reduceEqDiff, Nat.reduceAdd, Nat.zero_add, Int.cast_ofNat_Int, Int.reduceLT, Int.reduceLE, Int.reduceEq]
  refine EvF.ret (val_idx l f caps p h hl hp) ?_
  simp only [idx_any, ↓awD, awP, Nat.reduceLeDiff, Nat.reduceEqDiff, Nat.reduceAdd, Nat.zero_add, Int.cast_ofNat_Int, Int.reduceLT, Int.reduceLE, Int.reduceEq]
  exact Fin.same0 hcl rfl ⟨rfl, rfl⟩
theorem dsc_idx (l : List Dsc) (f : FuncId) (caps : List AV) (p : Dsc → Bool) (h : List AObj) (hl : l.length < 2 ^ 60) (hp : ∀ s, s ∈ l → EvR E0 f (dscv s :: caps.map AV.strip) h (boolv (p s))) :
    EvR E0 62 [.sl .unk (l.map dscv), .fn (.func f) [] caps] h (i64 (idx p l 0)) := by
  refine ev_of (fn := Tryz.f62) (hs := []) Tryz.func62 c62 (by simp) fun hcl => ?_
  generalize hR : idx p l 0 = R
  simp only [ac62, aw20, List.take_succ_cons, List.take_zero, List.drop_zero, List.drop_succ_cons, List.length_map, ↓awD, awP, Nat.reduceLeDiff, Nat.reduceEqDiff, Nat.reduceAdd, Nat.zero_add, Int.cast_ofNat_Int, Int.reduceLT, Int.reduceLE, Int.reduceEq]
  refine LoopF.list l hl (γ := Unit) (fun i _ => ⟨[(0, .sl .unk (l.map dscv)), (1, .fn (.func f) [] caps), (6, .sl .unk (l.map dscv)), (7, i64 l.length), (8, i64 i)], h⟩) (fun i _ => idx p (l.drop i) i = R) () (by simpa using hR) (weak_of rfl (by simp [look])) ?_ ?_
  · rintro i a _ ha hv hi e1 w3
    rw [drop_get ha] at hv
    unfold idx at hv
    have hga := map_get dscv l i a ha
    have hpa := hp a (List.mem_of_getElem? ha)
    simp only [dscv_eq] at hpa
    simp only [e1, w3, aw20, List.take_succ_cons, List.take_zero, List.drop_zero, List.drop_succ_cons, List.length_map, ↓awD, awP, Nat.reduceLeDiff, Nat.reduceEqDiff, Nat.reduceAdd, Nat.zero_add, Int.cast_ofNat_Int, Int.reduceLT, Int.reduceLE, Int.reduceEq]
    repeat' (first | ((first | refine Need.mk (by first | (first | omega | (simp only [decide_eq_true_eq, decide_eq_false_iff_not, Bool.and_eq_true, Bool.not_eq_true', Bool.not_eq_false', List.length_map] at *; omega) | (simp; omega)) | (constructor <;> (first | omega | (simp only [decide_eq_true_eq, decide_eq_false_iff_not, Bool.and_eq_true, Bool.not_eq_true', Bool.not_eq_false', List.length_map] at *; omega) | (simp; omega)))) (Elem.recs hga (by first | (rw [dscv_eq]; exact ⟨rfl, rfl⟩) | exact ⟨rfl, rfl⟩) ?_) | refine Elem.recs hga (by first | (rw [dscv_eq]; exact ⟨rfl, rfl⟩) | exact ⟨rfl, rfl⟩) ?_); simp only [dscv_eq, w3, aw21, aw20, List.take_succ_cons, List.take_zero, List.drop_zero, List.drop_succ_cons, List.length_map, ↓awD, awP, Nat.reduceLeDiff, Nat.reduceEqDiff, Nat.reduceAdd, Nat.zero_add, Int.cast_ofNat_Int, Int.reduceLT, Int.reduceLE, Int.reduceEq]) | ((first | refine EvF.ret (hpa) ?_ | refine EvRF.ret (hpa) ?_); simp only [w3, aw21, aw20, List.take_succ_cons, List.take_zero, List.drop_zero, List.drop_succ_cons, List.length_map, ↓awD, awP, Nat.reduceLeDiff, Nat.reduceEqDiff, Nat.reduceAdd, Nat.zero_add, Int.cast_ofNat_Int, Int.reduceLT, Int.reduceLE, Int.reduceEq]) | (refine BrF.mk (fun hb => ?_) (fun hb => ?_) <;> (try rw [hb]) <;> simp only [w3, aw21, aw20, List.take_succ_cons, List.take_zero, List.drop_zero, List.drop_succ_cons, List.length_map, ↓awD, awP, Nat.reduceLeDiff, Nat.reduceEqDiff, Nat.reduceAdd, Nat.zero_add, Int.cast_ofNat_Int, Int.reduceLT, Int.reduceLE, Int.reduceEq]))
    all_goals (simp only [*, if_true, if_false, Bool.false_eq_true] at hv)
    · subst hv; exact Fin.end hcl rfl (by first | rfl | exact (List.append_nil _).symm | (simp only [List.append_assoc]; rfl)) ⟨rfl, rfl⟩
    · exact ⟨(i + 1, ()), ⟨hi, hv⟩, by simp only; omega, weak_of (rfl) (by simp [look])⟩
  · rintro _ hv e1
    rw [drop_len] at hv
    unfold idx at hv
    subst hv
    simp only [e1, aw20, List.take_succ_cons, List.take_zero, List.drop_zero, List.drop_succ_cons, List.length_map, ↓awD, awP, Nat.reduceLeDiff, Nat.reduceEqDiff, Nat.reduceAdd, Nat.zero_add, Int.cast_ofNat_Int, Int.reduceLT, Int.reduceLE, Int.reduceEq]
    exact Fin.end hcl rfl (by first | rfl | exact (List.append_nil _).symm | (simp only [List.append_assoc]; rfl)) ⟨rfl, rfl⟩
theorem dsc_any (l : List Dsc) (f : FuncId) (caps : List AV) (p : Dsc → Bool) (h : List AObj) (hl : l.length < 2 ^ 60) (hp : ∀ s, s ∈ l → EvR E0 f (dscv s :: caps.map AV.strip) h (boolv (p s))) :
    EvR E0 43 [.sl .unk (l.map dscv), .fn (.func f) [] caps] h (boolv (l.any p)) := by
  refine ev_of (fn := Tryz.f43) (hs := []) Tryz.func43 c43 (by simp) fun hcl => ?_
  simp only [ac43, ↓awD, awP, Nat.reduceLeDiff, Nat.reduceEqDiff, Nat.reduceAdd, Nat.zero_add, Int.cast_ofNat_Int, Int.reduceLT, Int.reduceLE, Int.reduceEq]
  refine EvF.ret (dsc_idx l f caps p h hl hp) ?_
  simp only [idx_any, ↓awD, awP, Nat.reduceLeDiff, Nat.reduceEqDiff, Nat.reduceAdd, Nat.zero_add, Int.cast_ofNat_Int, Int.reduceLT, Int.reduceLE, Int.reduceEq]
  exact Fin.same0 hcl rfl ⟨rfl, rfl⟩
theorem rg_idx (l : List Rg) (f : FuncId) (caps : List AV) (p : Rg → Bool) (h : List AObj) (hl : l.length < 2 ^ 60) (hp : ∀ s, s ∈ l → EvR E0 f (rgv s :: caps.map AV.strip) h (boolv (p s))) :
    EvR E0 89 [.sl .unk (l.map rgv), .fn (.func f) [] caps] h (i64 (idx p l 0)) := by
  refine ev_of (fn := Tryz.f89) (hs := []) Tryz.func89 c89 (by simp) fun hcl => ?_
  generalize hR : idx p l 0 = R
  simp only [ac89, aw20, List.take_succ_cons, List.take_zero, List.drop_zero, List.drop_succ_cons, List.length_map, ↓awD, awP, Nat.reduceLeDiff, Nat.reduceEqDiff, Nat.reduceAdd, Nat.zero_add, Int.cast_ofNat_Int, Int.reduceLT, Int.reduceLE, Int.reduceEq]
  refine LoopF.list l hl (γ := Unit) (fun i _ => ⟨[(0, .sl .unk (l.map rgv)), (1, .fn (.func f) [] caps), (6, .sl .unk (l.map rgv)), (7, i64 l.length), (8, i64 i)], h⟩) (fun i _ => idx p (l.drop i) i = R) () (by simpa using hR) (weak_of rfl (by simp [look])) ?_ ?_
  · rintro i a _ ha hv hi e1 w3
    rw [drop_get ha] at hv
    unfold idx at hv
    have hga := map_get rgv l i a ha
    have hpa := hp a (List.mem_of_getElem? ha)
    simp only [rgv_eq] at hpa
    simp only [e1, w3, aw20, List.take_succ_cons, List.take_zero, List.drop_zero, List.drop_succ_cons, List.length_map, ↓awD, awP, Nat.reduceLeDiff, Nat.reduceEqDiff, Nat.reduceAdd, Nat.zero_add, Int.cast_ofNat_Int, Int.reduceLT, Int.reduceLE, Int.reduceEq]
    repeat' (first | ((first | refine Need.mk (by first | (first | omega | (simp only [decide_eq_true_eq, decide_eq_false_iff_not, Bool.and_eq_true, Bool.not_eq_true', Bool.not_eq_false', List.length_map] at *; omega) | (simp; omega)) | (constructor <;> (first | omega | (simp only [decide_eq_true_eq, decide_eq_false_iff_not, Bool.and_eq_true, Bool.not_eq_true', Bool.not_eq_false', List.length_map] at *; omega) | (simp; omega)))) (Elem.recs hga (by first | (rw [rgv_eq]; exact ⟨rfl, rfl⟩) | exact ⟨rfl, rfl⟩) ?_) | refine Elem.recs hga (by first | (rw [rgv_eq]; exact ⟨rfl, rfl⟩) | exact ⟨rfl, rfl⟩) ?_); simp only [rgv_eq, w3, aw21, aw20, List.take_succ_cons, List.take_zero, List.drop_zero, List.drop_succ_cons, List.length_map, ↓awD, awP, Nat.reduceLeDiff, Nat.reduceEqDiff, Nat.reduceAdd, Nat.zero_add, Int.cast_ofNat_Int, Int.reduceLT, Int.reduceLE, Int.reduceEq]) | ((first | refine EvF.ret (hpa) ?_ | refine EvRF.ret (hpa) ?_); simp only [w3, aw21, aw20, List.take_succ_cons, List.take_zero, List.drop_zero, List.drop_succ_cons, List.length_map, ↓awD, awP, Nat.reduceLeDiff, Nat.reduceEqDiff, Nat.reduceAdd, Nat.zero_add, Int.cast_ofNat_Int, Int.reduceLT, Int.reduceLE, Int.reduceEq]) | (refine BrF.mk (fun hb => ?_) (fun hb => ?_) <;> (try rw [hb]) <;> simp only [w3, aw21, aw20, List.take_succ_cons, List.take_zero, List.drop_zero, List.drop_succ_cons, List.length_map, ↓awD, awP, Nat.reduceLeDiff, Nat.reduceEqDiff, Nat.reduceAdd, Nat.zero_add, Int.cast_ofNat_Int, Int.reduceLT, Int.reduceLE, Int.reduceEq]))
    all_goals (simp only [*, if_true, if_false, Bool.false_eq_true] at hv)
    · subst hv; exact Fin.end hcl rfl (by first | rfl | exact (List.append_nil _).symm | (simp only [List.append_assoc]; rfl)) ⟨rfl, rfl⟩
    · exact ⟨(i + 1, ()), ⟨hi, hv⟩, by simp only; omega, weak_of (rfl) (by simp [look])⟩
  · rintro _ hv e1
    rw [drop_len] at hv
    unfold idx at hv
    subst hv
    simp only [e1, aw20, List.take_succ_cons, List.take_zero, List.drop_zero, List.drop_succ_cons, List.length_map, ↓awD, awP, Nat.reduceLeDiff, Nat.reduceEqDiff, Nat.reduceAdd, Nat.zero_add, Int.cast_ofNat_Int, Int.reduceLT, Int.reduceLE, Int.reduceEq]
    exact Fin.end hcl rfl (by first | rfl | exact (List.append_nil _).symm | (simp only [List.append_assoc]; rfl)) ⟨rfl, rfl⟩
theorem rg_any (l : List Rg) (f : FuncId) (caps : List AV) (p : Rg → Bool) (h : List AObj) (hl : l.length < 2 ^ 60) (hp : ∀ s, s ∈ l → EvR E0 f (rgv s :: caps.map AV.strip) h (boolv (p s))) :
    EvR E0 70 [.sl .unk (l.map rgv), .fn (.func f) [] caps] h (boolv (l.any p)) := by
  refine ev_of (fn := Tryz.f70) (hs := []) Tryz.func70 c70 (by simp) fun hcl => ?_
  simp only [ac70, ↓awD, awP, Nat.reduceLeDiff, Nat.reduceEqDiff, Nat.reduceAdd, Nat.zero_add, Int.cast_ofNat_Int, Int.reduceLT, Int.reduceLE, Int.reduceEq]
  refine EvF.ret (rg_idx l f caps p h hl hp) ?_
  simp only [idx_any, ↓awD, awP, Nat.reduceLeDiff, Nat.reduceEqDiff, Nat.reduceAdd, Nat.zero_add, Int.cast_ofNat_Int, Int.reduceLT, Int.reduceLE, Int.reduceEq]
  exact Fin.same0 hcl rfl ⟨rfl, rfl⟩
theorem fld_idx (l : List Fld) (f : FuncId) (caps : List AV) (p : Fld → Bool) (h : List AObj) (hl : l.length < 2 ^ 60) (hp : ∀ s, s ∈ l → EvR E0 f (fldv s :: caps.map AV.strip) h (boolv (p s))) :
    EvR E0 73 [.sl .unk (l.map fldv), .fn (.func f) [] caps] h (i64 (idx p l 0)) := by
  refine ev_of (fn := Tryz.f73) (hs := []) Tryz.func73 c73 (by simp) fun hcl => ?_
  generalize hR : idx p l 0 = R
  simp only [ac73, aw20, List.take_succ_cons, List.take_zero, List.drop_zero, List.drop_succ_cons, List.length_map, ↓awD, awP, Nat.reduceLeDiff, Nat.reduceEqDiff, Nat.reduceAdd, Nat.zero_add, Int.cast_ofNat_Int, Int.reduceLT, Int.reduceLE, Int.reduceEq]
  refine LoopF.list l hl (γ := Unit) (fun i _ => ⟨[(0, .sl .unk (l.map fldv)), (1, .fn (.func f) [] caps), (6, .sl .unk (l.map fldv)), (7, i64 l.length), (8, i64 i)], h⟩) (fun i _ => idx p (l.drop i) i = R) () (by simpa using hR) (weak_of rfl (by simp [look])) ?_ ?_
  · rintro i a _ ha hv hi e1 w3
    rw [drop_get ha] at hv
    unfold idx at hv
    have hga := map_get fldv l i a ha
    have hpa := hp a (List.mem_of_getElem? ha)
    simp only [fldv_eq] at hpa
    simp only [e1, w3, aw20, List.take_succ_cons, List.take_zero, List.drop_zero, List.drop_succ_cons, List.length_map, ↓awD, awP, Nat.reduceLeDiff, Nat.reduceEqDiff, Nat.reduceAdd, Nat.zero_add, Int.cast_ofNat_Int, Int.reduceLT, Int.reduceLE, Int.reduceEq]
    repeat' (first | ((first | refine Need.mk (by first | (first | omega | (simp only [decide_eq_true_eq, decide_eq_false_iff_not, Bool.and_eq_true, Bool.not_eq_true', Bool.not_eq_false', List.length_map] at *; omega) | (simp; omega)) | (constructor <;> (first | omega | (simp only [decide_eq_true_eq, decide_eq_false_iff_not, Bool.and_eq_true, Bool.not_eq_true', Bool.not_eq_false', List.length_map] at *; omega) | (simp; omega)))) (Elem.recs hga (by first | (rw [fldv_eq]; exact ⟨rfl, rfl⟩) | exact ⟨rfl, rfl⟩) ?_) | refine Elem.recs hga (by first | (rw [fldv_eq]; exact ⟨rfl, rfl⟩) | exact ⟨rfl, rfl⟩) ?_); simp only [fldv_eq, w3, aw21, aw20, List.take_succ_cons, List.take_zero, List.drop_zero, List.drop_succ_cons, List.length_map, ↓awD, awP, Nat.reduceLeDiff, Nat.reduceEqDiff, Nat.reduceAdd, Nat.zero_add, Int.cast_ofNat_Int, Int.reduceLT, Int.reduceLE, Int.reduceEq]) | ((first | refine EvF.ret (hpa) ?_ | refine EvRF.ret (hpa) ?_); simp only [w3, aw21, aw20, List.take_succ_cons, List.take_zero, List.drop_zero, List.drop_succ_cons, List.length_map, ↓awD, awP, Nat.reduceLeDiff, Nat.reduceEqDiff, Nat.reduceAdd, Nat.zero_add, Int.cast_ofNat_Int, Int.reduceLT, Int.reduceLE, Int.reduceEq]) | (refine BrF.mk (fun hb => ?_) (fun hb => ?_) <;> (try rw [hb]) <;> simp only [w3, aw21, aw20, List.take_succ_cons, List.take_zero, List.drop_zero, List.drop_succ_cons, List.length_map, ↓awD, awP, Nat.reduceLeDiff, Nat.reduceEqDiff, Nat.reduceAdd, Nat.zero_add, Int.cast_ofNat_Int, Int.reduceLT, Int.reduceLE, Int.reduceEq]))
    all_goals (simp only [*, if_true, if_false, Bool.false_eq_true] at hv)
    · subst hv; exact Fin.end hcl rfl (by first | rfl | exact (List.append_nil _).symm | (simp only [List.append_assoc]; rfl)) ⟨rfl, rfl⟩
    · exact ⟨(i + 1, ()), ⟨hi, hv⟩, by simp only; omega, weak_of (rfl) (by simp [look])⟩
  · rintro _ hv e1
    rw [drop_len] at hv
    unfold idx at hv
    subst hv
    simp only [e1, aw20, List.take_succ_cons, List.take_zero, List.drop_zero, List.drop_succ_cons, List.length_map, ↓awD, awP, Nat.reduceLeDiff, Nat.reduceEqDiff, Nat.reduceAdd, Nat.zero_add, Int.cast_ofNat_Int, Int.reduceLT, Int.reduceLE, Int.reduceEq]
    exact Fin.end hcl rfl (by first | rfl | exact (List.append_nil _).symm | (simp only [List.append_assoc]; rfl)) ⟨rfl, rfl⟩
theorem fld_any (l : List Fld) (f : FuncId) (caps : List AV) (p : Fld → Bool) (h : List AObj) (hl : l.length < 2 ^ 60) (hp : ∀ s, s ∈ l → EvR E0 f (fldv s :: caps.map AV.strip) h (boolv (p s))) :
    EvR E0 80 [.sl .unk (l.map fldv), .fn (.func f) [] caps] h (boolv (l.any p)) := by
  refine ev_of (fn := Tryz.f80) (hs := []) Tryz.func80 c80 (by simp) fun hcl => ?_
  simp only [ac80, ↓awD, awP, Nat.reduceLeDiff, Nat.reduceEqDiff, Nat.reduceAdd, Nat.zero_add, Int.cast_ofNat_Int, Int.reduceLT, Int.reduceLE, Int.reduceEq]
  refine EvF.ret (fld_idx l f caps p h hl hp) ?_
  simp only [idx_any, ↓awD, awP, Nat.reduceLeDiff, Nat.reduceEqDiff, Nat.reduceAdd, Nat.zero_add, Int.cast_ofNat_Int, Int.reduceLT, Int.reduceLE, Int.reduceEq]
  exact Fin.same0 hcl rfl ⟨rfl, rfl⟩
end Go.Abs.Fr
