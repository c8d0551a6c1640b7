/- What an argument that is a table, or a value, stands for. -/
import Derived.Test.YtloimemacnjpgaaGreatS15Td
import Derived.Test.YtloimemacnjpgaaGreatAbsZr
set_option linter.all false
namespace Go.Abs.Fr
open Go Go.Abs Go.Proofs Go.RowKit
set_option linter.unusedSimpArgs false
set_option maxRecDepth 100000

section
variable {H : Type} {enc : TypeId × Value → H} {W : World}

theorem u4 : E0.P.underlying 4 = some .bool := by kernel_rfl
theorem u3 : E0.P.underlying 3 = some (.int .i64) := by kernel_rfl
theorem u9 : E0.P.underlying 9 = some .string := by kernel_rfl
theorem wf_i64 {n : Int} (h : (Lit.int .i64 n).wf = true) : InR n := by
  rw [show (Lit.int .i64 n).wf = (decide (-9223372036854775808 ≤ n) && decide (n ≤ 9223372036854775807)) from rfl, Bool.and_eq_true, decide_eq_true_eq, decide_eq_true_eq] at h
  exact h
def fieldsIs (P : Program) (t : TypeId) (tot : Nat) (l : List (TypeId × Nat × Nat)) : Bool :=
  match P.underlying t with
  | some (.struct fs) => decide (fs.toList.map (fun f => (f.type, f.offset, P.cellsOf f.type)) = l) && decide (P.cellsOf t = tot)
  | _ => false
theorem trod_fields {P : Program} {n tot : Nat} {t : TypeId} {l : List (TypeId × Nat × Nat)} (hs : fieldsIs P t tot l = true) {cs : List Value} {x : DataW H × List MemPlace} (h : DataW.trod enc P W 0 (fun _ => true) true n t cs = some x)
    (hw : (x.1.weights P t).all (· ≤ reachBytes) = true) :
    ∃ m, n = m + 1 ∧ cs.length = tot ∧ ∀ (i : Nat) ft off sz, l[i]? = some (ft, off, sz) → ∃ y, DataW.trod enc P W 0 (fun _ => true) true m ft ((cs.drop off).take sz) = some y ∧ (y.1.weights P ft).all (· ≤ reachBytes) = true := by
  unfold fieldsIs at hs
  split at hs
  · rename_i fs hu
    rw [Bool.and_eq_true, decide_eq_true_eq, decide_eq_true_eq] at hs
    obtain ⟨hf, hct⟩ := hs
    obtain ⟨xs, m, rfl, rfl, hcl, hxl, hget⟩ := DataW.trod_struct hu h
    refine ⟨m, rfl, by rw [hcl, hct], fun i ft off sz hi => ?_⟩
    have hfi := congrArg (fun l => l[i]?) hf
    simp only [List.getElem?_map, hi] at hfi
    obtain ⟨f, hff, hfe⟩ := Option.map_eq_some_iff.1 hfi
    simp only [Prod.mk.injEq] at hfe
    obtain ⟨h1, h2, h3⟩ := hfe
    have hg := hget i f (by simpa using hff)
    rw [h3, h1, h2] at hg
    have hfl := (List.getElem?_eq_some_iff.1 hff).1
    obtain ⟨y, hy⟩ : ∃ y, xs[i]? = some y := ⟨_, List.getElem?_eq_getElem (by rw [hxl]; simpa using hfl)⟩
    rw [hy] at hg
    refine ⟨y, hg, ?_⟩
    simp only [DataW.weights, hu] at hw
    exact weightsEach_get hw (i := i) (by rw [List.getElem?_map, hff, Option.map_some, h1]) (by rw [List.getElem?_map, hy]; rfl)
  · cases hs
theorem rd_piece {P : Program} {m : Nat} {t : TypeId} {α : Type} {av : α → AV} {ok : α → Prop} (h : RdAt enc P W m t av ok) (hs : ∀ a, (av a).sure = true) {c : List Value} {y : DataW H × List MemPlace}
    (hc : DataW.trod enc P W 0 (fun _ => true) true m t c = some y) (hw : (y.1.weights P t).all (· ≤ reachBytes) = true) : ∃ a, ok a ∧ Reps W (Gh.all W) 0 (av a).cells c := by
  obtain ⟨a, h1, v, hv, hr⟩ := h _ _ hc hw
  have := Rep.cells (hs a) hr
  rw [hv] at this
  exact ⟨a, h1, this⟩
theorem reps_glue {g : Gh} {n off sz : Nat} {a b : List AV} {cs : List Value} (h : Reps W g n a ((cs.drop off).take sz)) (h2 : Reps W g n b (cs.drop (off + sz))) : Reps W g n (a ++ b) (cs.drop off) := by
  rw [← List.take_append_drop sz (cs.drop off), List.drop_drop]
  exact Reps.append h h2

theorem uStrs : E0.P.underlying 23 = some (.slice 9) := by kernel_rfl
theorem kStr : 0 < E0.P.cellsOf 9 ∧ 0 < E0.P.bytesOf 9 := ⟨of_decide_eq_true (by kernel_rfl), of_decide_eq_true (by kernel_rfl)⟩
theorem mxB_of {M : Nat} : ∀ {l : List ByteArray}, l.length ≤ M → (∀ a, a ∈ l → a.size ≤ M) → mxB l ≤ M
  | [], _, _ => by simp [mxB]
  | a :: l, h, h2 => by
    have h3 := h2 a (List.mem_cons_self ..)
    have h4 := mxB_of (l := l) (by simp at h; omega) (fun b hb => h2 b (List.mem_cons_of_mem _ hb))
    simp only [List.length_cons] at h
    simp only [mxB]; omega
theorem rd_strs : ∀ (n : Nat), RdAt enc E0.P W n 23 (fun l : List ByteArray => .sl .unk (l.map str)) (fun l => mxB l ≤ reachBytes)
  | 0 => RdAt.zero
  | n + 1 => (RdAt.slice uStrs kStr.1 kStr.2 (RdAt.string u9)).mono fun l h => mxB_of h.1 h.2

theorem uVals : E0.P.underlying 24 = some (.slice 26) := by kernel_rfl
theorem sVal : onesIs E0.P 26 [3, 3, 9, 23, 24] = true := by kernel_rfl
theorem kVal : 0 < E0.P.cellsOf 26 ∧ 0 < E0.P.bytesOf 26 := ⟨of_decide_eq_true (by kernel_rfl), of_decide_eq_true (by kernel_rfl)⟩
theorem list5 {cs : List Value} {a b c d e : Value} (hl : cs.length = 5) (h0 : cs[0]? = some a) (h1 : cs[1]? = some b) (h2 : cs[2]? = some c) (h3 : cs[3]? = some d) (h4 : cs[4]? = some e) : cs = [a, b, c, d, e] := by
  match cs, hl with
  | [x, y, z, u, v], _ => simp at h0 h1 h2 h3 h4; subst h0 h1 h2 h3 h4; rfl
theorem mxVs_of {M : Nat} : ∀ {l : List Val}, l.length ≤ M → (∀ a, a ∈ l → mxV a ≤ M) → mxVs l ≤ M
  | [], _, _ => by simp [mxVs]
  | a :: l, h, h2 => by
    have h3 := h2 a (List.mem_cons_self ..)
    have h4 := mxVs_of (l := l) (by simp at h; omega) (fun b hb => h2 b (List.mem_cons_of_mem _ hb))
    simp only [List.length_cons] at h
    simp only [mxVs]; omega
theorem rd_val_of {m : Nat} (ih : RdAt enc E0.P W m 24 (fun l : List Val => .sl .unk (l.map valv)) (fun l => mxVs l ≤ reachBytes)) : RdAt enc E0.P W (m + 1) 26 valv (fun s => mxV s ≤ reachBytes) := fun cs x h hw => by
  obtain ⟨m', hm, hl, hf⟩ := trod_ones sVal h hw
  obtain rfl : m = m' := Nat.succ.inj hm
  obtain ⟨c0, y0, e0, t0, w0⟩ := hf 0 3 rfl
  obtain ⟨c1, y1, e1, t1, w1⟩ := hf 1 3 rfl
  obtain ⟨c2, y2, e2, t2, w2⟩ := hf 2 9 rfl
  obtain ⟨c3, y3, e3, t3, w3⟩ := hf 3 23 rfl
  obtain ⟨c4, y4, e4, t4, w4⟩ := hf 4 24 rfl
  obtain ⟨k0, hk0, r0⟩ := (RdAt.int u3).one (fun _ => ⟨rfl, rfl⟩) t0 w0
  obtain ⟨k1, hk1, r1⟩ := (RdAt.int u3).one (fun _ => ⟨rfl, rfl⟩) t1 w1
  obtain ⟨s2, hs2, r2⟩ := (RdAt.string u9).one (fun _ => ⟨rfl, rfl⟩) t2 w2
  obtain ⟨l3, hl3, r3⟩ := (rd_strs m).one (fun _ => ⟨rfl, rfl⟩) t3 w3
  obtain ⟨l, hlx, r4⟩ := ih.one (fun _ => ⟨rfl, rfl⟩) t4 w4
  refine ⟨.mk k0 k1 s2 l3 l ⟨wf_i64 hk0, wf_i64 hk1⟩, by simp only [mxV]; omega, .agg #[c0, c1, c2, c3, c4], (list5 hl e0 e1 e2 e3 e4).symm, ?_⟩
  rw [valv_eq]
  simp only [Rep]
  exact ⟨_, rfl, Reps.cons'.2 ⟨r0, Reps.cons'.2 ⟨r1, Reps.cons'.2 ⟨r2, Reps.cons'.2 ⟨r3, Reps.cons'.2 ⟨r4, Reps.nil.2 rfl⟩⟩⟩⟩⟩⟩
theorem rd_vals : ∀ (n : Nat), RdAt enc E0.P W n 24 (fun l : List Val => .sl .unk (l.map valv)) (fun l => mxVs l ≤ reachBytes)
  | 0 => RdAt.zero
  | 1 => (RdAt.slice (ok := fun s => mxV s ≤ reachBytes) uVals kVal.1 kVal.2 RdAt.zero).mono fun l h => mxVs_of h.1 h.2
  | n + 2 => (RdAt.slice uVals kVal.1 kVal.2 (rd_val_of (rd_vals n))).mono fun l h => mxVs_of h.1 h.2

theorem rd_val : ∀ (n : Nat), RdAt enc E0.P W n 26 valv (fun s => mxV s ≤ reachBytes)
  | 0 => RdAt.zero
  | n + 1 => rd_val_of (rd_vals n)

theorem uRgs : E0.P.underlying 39 = some (.slice 80) := by kernel_rfl
theorem uInts : E0.P.underlying 41 = some (.slice 3) := by kernel_rfl
theorem uFlds : E0.P.underlying 40 = some (.slice 45) := by kernel_rfl
theorem uDscs : E0.P.underlying 22 = some (.slice 43) := by kernel_rfl
theorem kRg : 0 < E0.P.cellsOf 80 ∧ 0 < E0.P.bytesOf 80 := ⟨of_decide_eq_true (by kernel_rfl), of_decide_eq_true (by kernel_rfl)⟩
theorem kInt : 0 < E0.P.cellsOf 3 ∧ 0 < E0.P.bytesOf 3 := ⟨of_decide_eq_true (by kernel_rfl), of_decide_eq_true (by kernel_rfl)⟩
theorem kFld : 0 < E0.P.cellsOf 45 ∧ 0 < E0.P.bytesOf 45 := ⟨of_decide_eq_true (by kernel_rfl), of_decide_eq_true (by kernel_rfl)⟩
theorem kDsc : 0 < E0.P.cellsOf 43 ∧ 0 < E0.P.bytesOf 43 := ⟨of_decide_eq_true (by kernel_rfl), of_decide_eq_true (by kernel_rfl)⟩
theorem sRg : fieldsIs E0.P 80 2 [(3, 0, 1), (3, 1, 1)] = true := by kernel_rfl
theorem sFld : fieldsIs E0.P 45 4 [(9, 0, 1), (3, 1, 1), (4, 2, 1), (24, 3, 1)] = true := by kernel_rfl
theorem sDsc : fieldsIs E0.P 43 12 [(3, 0, 1), (4, 1, 1), (39, 2, 1), (3, 3, 1), (3, 4, 1), (9, 5, 1), (23, 6, 1), (23, 7, 1), (40, 8, 1), (40, 9, 1), (41, 10, 1), (3, 11, 1)] = true := by kernel_rfl
theorem rd_rg : ∀ (n : Nat), RdAt enc E0.P W n 80 rgv (fun _ => True)
  | 0 => RdAt.zero
  | n + 1 => fun cs x h hw => by
    obtain ⟨m', hm, hl, hf⟩ := trod_fields sRg h hw
    obtain rfl : n = m' := Nat.succ.inj hm
    obtain ⟨y0, t0, w0⟩ := hf 0 _ _ _ rfl
    obtain ⟨y1, t1, w1⟩ := hf 1 _ _ _ rfl
    obtain ⟨a0, k0, r0⟩ := rd_piece (RdAt.int u3) (fun _ => rfl) t0 w0
    obtain ⟨a1, k1, r1⟩ := rd_piece (RdAt.int u3) (fun _ => rfl) t1 w1
    have e : Reps W (Gh.all W) 0 [] (cs.drop 2) := by rw [List.drop_eq_nil_of_le (by omega)]; exact Reps.nil.2 rfl
    have g := reps_glue r0 <| reps_glue r1 e
    rw [List.drop_zero] at g
    refine ⟨⟨a0, a1, wf_i64 k0, wf_i64 k1⟩, trivial, .agg cs.toArray, by simp [Value.cells], ?_⟩
    rw [rgv_eq]
    simp only [Rep]
    exact ⟨_, rfl, g⟩
theorem rd_rgs : ∀ (n : Nat), RdAt enc E0.P W n 39 (fun l : List Rg => .sl .unk (l.map rgv)) (fun l => l.length ≤ reachBytes)
  | 0 => RdAt.zero
  | n + 1 => (RdAt.slice uRgs kRg.1 kRg.2 (rd_rg n)).mono fun l h => h.1
theorem rd_ints : ∀ (n : Nat), RdAt enc E0.P W n 41 (fun l : List Int => .sl .unk (l.map fun x => .lit (.int .i64 x))) (fun l => l.length ≤ reachBytes ∧ ∀ x, x ∈ l → InR x)
  | 0 => RdAt.zero
  | n + 1 => (RdAt.slice uInts kInt.1 kInt.2 (RdAt.int u3)).mono fun l h => ⟨h.1, fun x hx => wf_i64 (h.2 x hx)⟩
def okF (f : Fld) : Prop := f.name.size ≤ reachBytes ∧ mxVs f.dfl ≤ reachBytes
theorem rd_fld : ∀ (n : Nat), RdAt enc E0.P W n 45 fldv okF
  | 0 => RdAt.zero
  | n + 1 => fun cs x h hw => by
    obtain ⟨m', hm, hl, hf⟩ := trod_fields sFld h hw
    obtain rfl : n = m' := Nat.succ.inj hm
    obtain ⟨y0, t0, w0⟩ := hf 0 _ _ _ rfl
    obtain ⟨y1, t1, w1⟩ := hf 1 _ _ _ rfl
    obtain ⟨y2, t2, w2⟩ := hf 2 _ _ _ rfl
    obtain ⟨y3, t3, w3⟩ := hf 3 _ _ _ rfl
    obtain ⟨a0, k0, r0⟩ := rd_piece (RdAt.string u9) (fun _ => rfl) t0 w0
    obtain ⟨a1, k1, r1⟩ := rd_piece (RdAt.int u3) (fun _ => rfl) t1 w1
    obtain ⟨a2, k2, r2⟩ := rd_piece (RdAt.bool u4) (fun _ => rfl) t2 w2
    obtain ⟨a3, k3, r3⟩ := rd_piece (rd_vals n) (fun _ => rfl) t3 w3
    have e : Reps W (Gh.all W) 0 [] (cs.drop 4) := by rw [List.drop_eq_nil_of_le (by omega)]; exact Reps.nil.2 rfl
    have g := reps_glue r0 <| reps_glue r1 <| reps_glue r2 <| reps_glue r3 e
    rw [List.drop_zero] at g
    refine ⟨⟨a0, a1, a2, a3, wf_i64 k1⟩, ⟨k0, k3⟩, .agg cs.toArray, by simp [Value.cells], ?_⟩
    rw [fldv_eq]
    simp only [Rep]
    exact ⟨_, rfl, g⟩
theorem rd_flds : ∀ (n : Nat), RdAt enc E0.P W n 40 (fun l : List Fld => .sl .unk (l.map fldv)) (fun l => l.length ≤ reachBytes ∧ ∀ f, f ∈ l → okF f)
  | 0 => RdAt.zero
  | n + 1 => RdAt.slice uFlds kFld.1 kFld.2 (rd_fld n)
def okD (r : Dsc) : Prop := r.set.length ≤ reachBytes ∧ r.frm.size ≤ reachBytes ∧ r.names.length ≤ reachBytes ∧ r.more.length ≤ reachBytes ∧ r.parts.length ≤ reachBytes ∧ r.adds.length ≤ reachBytes ∧ r.order.length ≤ reachBytes ∧ ∀ f, f ∈ r.fields → okF f
theorem rd_dsc : ∀ (n : Nat), RdAt enc E0.P W n 43 dscv okD
  | 0 => RdAt.zero
  | n + 1 => fun cs x h hw => by
    obtain ⟨m', hm, hl, hf⟩ := trod_fields sDsc h hw
    obtain rfl : n = m' := Nat.succ.inj hm
    obtain ⟨y0, t0, w0⟩ := hf 0 _ _ _ rfl
    obtain ⟨y1, t1, w1⟩ := hf 1 _ _ _ rfl
    obtain ⟨y2, t2, w2⟩ := hf 2 _ _ _ rfl
    obtain ⟨y3, t3, w3⟩ := hf 3 _ _ _ rfl
    obtain ⟨y4, t4, w4⟩ := hf 4 _ _ _ rfl
    obtain ⟨y5, t5, w5⟩ := hf 5 _ _ _ rfl
    obtain ⟨y6, t6, w6⟩ := hf 6 _ _ _ rfl
    obtain ⟨y7, t7, w7⟩ := hf 7 _ _ _ rfl
    obtain ⟨y8, t8, w8⟩ := hf 8 _ _ _ rfl
    obtain ⟨y9, t9, w9⟩ := hf 9 _ _ _ rfl
    obtain ⟨y10, t10, w10⟩ := hf 10 _ _ _ rfl
    obtain ⟨y11, t11, w11⟩ := hf 11 _ _ _ rfl
    obtain ⟨a0, k0, r0⟩ := rd_piece (RdAt.int u3) (fun _ => rfl) t0 w0
    obtain ⟨a1, k1, r1⟩ := rd_piece (RdAt.bool u4) (fun _ => rfl) t1 w1
    obtain ⟨a2, k2, r2⟩ := rd_piece (rd_rgs n) (fun _ => rfl) t2 w2
    obtain ⟨a3, k3, r3⟩ := rd_piece (RdAt.int u3) (fun _ => rfl) t3 w3
    obtain ⟨a4, k4, r4⟩ := rd_piece (RdAt.int u3) (fun _ => rfl) t4 w4
    obtain ⟨a5, k5, r5⟩ := rd_piece (RdAt.string u9) (fun _ => rfl) t5 w5
    obtain ⟨a6, k6, r6⟩ := rd_piece (rd_strs n) (fun _ => rfl) t6 w6
    obtain ⟨a7, k7, r7⟩ := rd_piece (rd_strs n) (fun _ => rfl) t7 w7
    obtain ⟨a8, k8, r8⟩ := rd_piece (rd_flds n) (fun _ => rfl) t8 w8
    obtain ⟨a9, k9, r9⟩ := rd_piece (rd_flds n) (fun _ => rfl) t9 w9
    obtain ⟨a10, k10, r10⟩ := rd_piece (rd_ints n) (fun _ => rfl) t10 w10
    obtain ⟨a11, k11, r11⟩ := rd_piece (RdAt.int u3) (fun _ => rfl) t11 w11
    have e : Reps W (Gh.all W) 0 [] (cs.drop 12) := by rw [List.drop_eq_nil_of_le (by omega)]; exact Reps.nil.2 rfl
    have g := reps_glue r0 <| reps_glue r1 <| reps_glue r2 <| reps_glue r3 <| reps_glue r4 <| reps_glue r5 <| reps_glue r6 <| reps_glue r7 <| reps_glue r8 <| reps_glue r9 <| reps_glue r10 <| reps_glue r11 e
    rw [List.drop_zero] at g
    have l6 := mxB_len a6
    have l7 := mxB_len a7
    refine ⟨⟨a0, a1, a2, a3, a4, a5, a6, a7, a8, a9, a10, a11, wf_i64 k0, wf_i64 k3, wf_i64 k4, wf_i64 k11, k10.2⟩, ⟨k2, k5, by simp only; omega, by simp only; omega, k8.1, k9.1, k10.1, fun f hf => ?_⟩, .agg cs.toArray, by simp [Value.cells], ?_⟩
    · rcases List.mem_append.1 hf with hf | hf
      · exact k8.2 f hf
      · exact k9.2 f hf
    · rw [dscv_eq]
      simp only [Rep]
      exact ⟨_, rfl, g⟩
theorem rd_dscs : ∀ (n : Nat), RdAt enc E0.P W n 22 (fun l : List Dsc => .sl .unk (l.map dscv)) (fun l => l.length ≤ reachBytes ∧ ∀ f, f ∈ l → okD f)
  | 0 => RdAt.zero
  | n + 1 => RdAt.slice uDscs kDsc.1 kDsc.2 (rd_dsc n)
end

def ac23 : ACode := (.seq (.region [oq 4 (.move (cb false))]) (.seq (.seq (.region [oq 6 (qm 0), oq 7 (qn 6), oq 8 (qm 1), oq 9 (qn 8), oq 10 (.bin .neq (tq 7) (tq 9))]) (.cond (tq 10) (.seq (.region [oq 4 (.move (cb false))]) .ret) .skip)) (.seq (.seq (.region [oq 11 (qm 0), oq 12 (qn 11), oq 13 (.move (ci 0))]) (.block 0 (.loop (.seq (.region [oq 14 (.bin .lss (tq 13) (tq 12))]) (.seq (.cond (tq 14) .skip (.exit 0)) (.seq (.block 1 (.seq (.region [oq 15 (qm 13), oq 5 (qm 15)]) (.seq (.draw [oq 16 (qm 0), oq 17 (qm 5), oq 18 (qx 1 16 17), oq 19 (ql 18), oq 20 (qm 1), oq 21 (qm 5), oq 22 (qx 1 20 21), oq 23 (ql 22), oq 24 (.bin .neq (tq 19) (tq 23))]) (.cond (tq 24) (.seq (.region [oq 4 (.move (cb false))]) .ret) .skip)))) (.region [oq 25 (.bin .add (tq 13) (ci 1)), oq 13 (qm 25)]))))))) (.seq (.region [oq 4 (.move (cb true))]) .ret))))
theorem c23 : cfn E0.P [] Tryz.f23 = some (ac23, [(.tmp 4)], 26) := by kernel_rfl
def ac24 : ACode := (.seq (.region [oq 6 (.move (cb false))]) (.seq (.seq (.region [oq 10 (qm 0), oq 11 (qn 10), oq 12 (qm 1), oq 13 (qn 12), oq 14 (.bin .neq (tq 11) (tq 13))]) (.cond (tq 14) (.seq (.region [oq 6 (.move (cb false))]) .ret) .skip)) (.seq (.seq (.region [oq 15 (qm 0), oq 16 (qn 15), oq 17 (.move (ci 0))]) (.block 0 (.loop (.seq (.region [oq 18 (.bin .lss (tq 17) (tq 16))]) (.seq (.cond (tq 18) .skip (.exit 0)) (.seq (.block 1 (.seq (.region [oq 19 (qm 17), oq 20 (qx 5 15 17), oq 21 (qs 5 20), oq 8 (.alloc [zi, zi, zs, zn, zn]), oq 7 (qm 19), oz (.store 5 (tq 8) (tq 21))]) (.seq (.region [oq 22 (qm 1), oq 23 (qm 7), oq 24 (qx 5 22 23), oq 25 (qs 5 24), oq 9 (.alloc [zi, zi, zs, zn, zn]), oz (.store 5 (tq 9) (tq 25))]) (.seq (.region [oq 26 (qm 2), oq 27 (qs 5 8), oq 28 (qs 5 9), oq 29 (.call (tq 26) [((tq 27), false), ((tq 28), false)]), oq 30 (.un .not (tq 29))]) (.cond (tq 30) (.seq (.region [oq 6 (.move (cb false))]) .ret) .skip))))) (.region [oq 31 (.bin .add (tq 17) (ci 1)), oq 17 (qm 31)]))))))) (.seq (.region [oq 6 (.move (cb true))]) .ret))))
theorem c24 : cfn E0.P [] Tryz.f24 = some (ac24, [(.tmp 6)], 32) := by kernel_rfl
def ac30 : ACode := (.seq (.region [oq 4 (.move (cb false))]) (.seq (.region [oq 5 (qm 0), oq 6 (qm 1), oq 7 (.call (.func 47) [((tq 5), false), ((tq 6), false)]), oq 8 (.bin .geq (tq 7) (ci 0)), oq 4 (qm 8)]) .ret))
theorem c30 : cfn E0.P [] Tryz.f30 = some (ac30, [(.tmp 4)], 9) := by kernel_rfl
def ac32 : ACode := (.seq (.region [oq 4 (.move (ci 0))]) (.seq (.seq (.region [oq 6 (qm 0), oq 7 (qn 6), oq 8 (.move (ci 0))]) (.block 0 (.loop (.seq (.region [oq 9 (.bin .lss (tq 8) (tq 7))]) (.seq (.cond (tq 9) .skip (.exit 0)) (.seq (.block 1 (.seq (.region [oq 10 (qm 8), oq 5 (qm 10)]) (.seq (.region [oq 11 (qm 1), oq 12 (qm 0), oq 13 (qm 5), oq 14 (qx 1 12 13), oq 15 (ql 14), oq 16 (.bin .eql (tq 11) (tq 15))]) (.cond (tq 16) (.seq (.region [oq 17 (qm 5), oq 4 (qm 17)]) .ret) .skip)))) (.region [oq 18 (.bin .add (tq 8) (ci 1)), oq 8 (qm 18)]))))))) (.seq (.region [oq 4 (.move (.const (.int .i64 (-1))))]) .ret)))
theorem c32 : cfn E0.P [] Tryz.f32 = some (ac32, [(.tmp 4)], 19) := by kernel_rfl
def ac43 : ACode := (.seq (.region [oq 4 (.move (cb false))]) (.seq (.region [oq 5 (qm 0), oq 6 (qm 1), oq 7 (.call (.func 62) [((tq 5), false), ((tq 6), false)]), oq 8 (.bin .geq (tq 7) (ci 0)), oq 4 (qm 8)]) .ret))
theorem c43 : cfn E0.P [] Tryz.f43 = some (ac43, [(.tmp 4)], 9) := by kernel_rfl
def ac47 : ACode := (.seq (.region [oq 4 (.move (ci 0))]) (.seq (.seq (.region [oq 6 (qm 0), oq 7 (qn 6), oq 8 (.move (ci 0))]) (.block 0 (.loop (.seq (.region [oq 9 (.bin .lss (tq 8) (tq 7))]) (.seq (.cond (tq 9) .skip (.exit 0)) (.seq (.block 1 (.seq (.region [oq 10 (qm 8), oq 5 (qm 10)]) (.seq (.region [oq 11 (qm 1), oq 12 (qm 0), oq 13 (qm 5), oq 14 (qx 5 12 13), oq 15 (qs 5 14), oq 16 (.call (tq 11) [((tq 15), false)])]) (.cond (tq 16) (.seq (.region [oq 17 (qm 5), oq 4 (qm 17)]) .ret) .skip)))) (.region [oq 18 (.bin .add (tq 8) (ci 1)), oq 8 (qm 18)]))))))) (.seq (.region [oq 4 (.move (.const (.int .i64 (-1))))]) .ret)))
theorem c47 : cfn E0.P [] Tryz.f47 = some (ac47, [(.tmp 4)], 19) := by kernel_rfl
def ac57 : ACode := (.seq (.region [oq 4 (.move (cb false))]) (.seq (.region [oq 5 (qm 0), oq 6 (qm 1), oq 7 (.call (.func 32) [((tq 5), false), ((tq 6), false)]), oq 8 (.bin .geq (tq 7) (ci 0)), oq 4 (qm 8)]) .ret))
theorem c57 : cfn E0.P [] Tryz.f57 = some (ac57, [(.tmp 4)], 9) := by kernel_rfl
def ac62 : ACode := (.seq (.region [oq 4 (.move (ci 0))]) (.seq (.seq (.region [oq 6 (qm 0), oq 7 (qn 6), oq 8 (.move (ci 0))]) (.block 0 (.loop (.seq (.region [oq 9 (.bin .lss (tq 8) (tq 7))]) (.seq (.cond (tq 9) .skip (.exit 0)) (.seq (.block 1 (.seq (.region [oq 10 (qm 8), oq 5 (qm 10)]) (.seq (.region [oq 11 (qm 1), oq 12 (qm 0), oq 13 (qm 5), oq 14 (qx 12 12 13), oq 15 (qs 12 14), oq 16 (.call (tq 11) [((tq 15), false)])]) (.cond (tq 16) (.seq (.region [oq 17 (qm 5), oq 4 (qm 17)]) .ret) .skip)))) (.region [oq 18 (.bin .add (tq 8) (ci 1)), oq 8 (qm 18)]))))))) (.seq (.region [oq 4 (.move (.const (.int .i64 (-1))))]) .ret)))
theorem c62 : cfn E0.P [] Tryz.f62 = some (ac62, [(.tmp 4)], 19) := by kernel_rfl
def ac70 : ACode := (.seq (.region [oq 4 (.move (cb false))]) (.seq (.region [oq 5 (qm 0), oq 6 (qm 1), oq 7 (.call (.func 89) [((tq 5), false), ((tq 6), false)]), oq 8 (.bin .geq (tq 7) (ci 0)), oq 4 (qm 8)]) .ret))
theorem c70 : cfn E0.P [] Tryz.f70 = some (ac70, [(.tmp 4)], 9) := by kernel_rfl
def ac73 : ACode := (.seq (.region [oq 4 (.move (ci 0))]) (.seq (.seq (.region [oq 6 (qm 0), oq 7 (qn 6), oq 8 (.move (ci 0))]) (.block 0 (.loop (.seq (.region [oq 9 (.bin .lss (tq 8) (tq 7))]) (.seq (.cond (tq 9) .skip (.exit 0)) (.seq (.block 1 (.seq (.region [oq 10 (qm 8), oq 5 (qm 10)]) (.seq (.region [oq 11 (qm 1), oq 12 (qm 0), oq 13 (qm 5), oq 14 (qx 4 12 13), oq 15 (qs 4 14), oq 16 (.call (tq 11) [((tq 15), false)])]) (.cond (tq 16) (.seq (.region [oq 17 (qm 5), oq 4 (qm 17)]) .ret) .skip)))) (.region [oq 18 (.bin .add (tq 8) (ci 1)), oq 8 (qm 18)]))))))) (.seq (.region [oq 4 (.move (.const (.int .i64 (-1))))]) .ret)))
theorem c73 : cfn E0.P [] Tryz.f73 = some (ac73, [(.tmp 4)], 19) := by kernel_rfl
def ac80 : ACode := (.seq (.region [oq 4 (.move (cb false))]) (.seq (.region [oq 5 (qm 0), oq 6 (qm 1), oq 7 (.call (.func 73) [((tq 5), false), ((tq 6), false)]), oq 8 (.bin .geq (tq 7) (ci 0)), oq 4 (qm 8)]) .ret))
theorem c80 : cfn E0.P [] Tryz.f80 = some (ac80, [(.tmp 4)], 9) := by kernel_rfl
def ac89 : ACode := (.seq (.region [oq 4 (.move (ci 0))]) (.seq (.seq (.region [oq 6 (qm 0), oq 7 (qn 6), oq 8 (.move (ci 0))]) (.block 0 (.loop (.seq (.region [oq 9 (.bin .lss (tq 8) (tq 7))]) (.seq (.cond (tq 9) .skip (.exit 0)) (.seq (.block 1 (.seq (.region [oq 10 (qm 8), oq 5 (qm 10)]) (.seq (.region [oq 11 (qm 1), oq 12 (qm 0), oq 13 (qm 5), oq 14 (qx 2 12 13), oq 15 (qs 2 14), oq 16 (.call (tq 11) [((tq 15), false)])]) (.cond (tq 16) (.seq (.region [oq 17 (qm 5), oq 4 (qm 17)]) .ret) .skip)))) (.region [oq 18 (.bin .add (tq 8) (ci 1)), oq 8 (qm 18)]))))))) (.seq (.region [oq 4 (.move (.const (.int .i64 (-1))))]) .ret)))
theorem c89 : cfn E0.P [] Tryz.f89 = some (ac89, [(.tmp 4)], 19) := by kernel_rfl

theorem vals_equal (l r : List Val) (p : Val → Val → Bool) (h : List AObj) (hl : l.length < 2 ^ 60) (hr : r.length < 2 ^ 60) (f : FuncId)
    (hp : ∀ a b, a ∈ l → b ∈ r → ∀ h', EvR E0 f [valv a, valv b] h' (boolv (p a b))) : EvR E0 24 [.sl .unk (l.map valv), .sl .unk (r.map valv), .fn (.func f) [] []] h (boolv (all2 p l r)) := by
  refine ev_of (fn := Tryz.f24) (hs := []) Tryz.func24 c24 (by simp) fun hcl => ?_
  generalize hR : all2 p l r = R
  have d0 : decide ((l.length : Int) = (r.length : Int)) = decide (l.length = r.length) := by rw [decide_eq_decide]; omega
  cases dl : decide (l.length = r.length)
  · simp only [ac24, List.length_map, d0, dl, ↓awD, awP, Nat.reduceLeDiff, Nat.reduceEqDiff, Nat.reduceAdd, Int.reduceLT, Int.reduceLE, Int.reduceEq]
    rw [decide_eq_false_iff_not] at dl
    rw [all2_len dl] at hR
    subst hR
    exact Fin.same0 hcl rfl ⟨rfl, rfl⟩
  · simp only [ac24, List.length_map, d0, dl, ↓awD, awP, Nat.reduceLeDiff, Nat.reduceEqDiff, Nat.reduceAdd, Int.reduceLT, Int.reduceLE, Int.reduceEq]
    rw [decide_eq_true_eq] at dl
    refine LoopF.list l hl (γ := List AObj) (fun i J => ⟨[(1, .sl .unk (r.map valv)), (2, .fn (.func f) [] []), (15, .sl .unk (l.map valv)), (16, i64 l.length), (17, i64 i)], h ++ J⟩)
      (fun i _ => all2 p (l.drop i) (r.drop i) = R) [] (by simpa using hR) (weak_of (by simp) (by simp [look])) ?_ ?_
    · rintro i a J ha h2 hi e1 w3
      obtain ⟨b, hb⟩ : ∃ b, r[i]? = some b := ⟨_, List.getElem?_eq_getElem (by omega)⟩
      have hga := map_get valv l i a ha
      have hgb := map_get valv r i b hb
      have hpp := hp a b (List.mem_of_getElem? ha) (List.mem_of_getElem? hb)
      simp only [valv_eq] at hpp
      rw [drop_get ha, drop_get hb] at h2
      simp only [all2] at h2
      simp only [e1, List.length_map, ↓awD, awP, Nat.reduceLeDiff, Nat.reduceEqDiff, Nat.reduceAdd, Int.reduceLT, Int.reduceLE, Int.reduceEq]
      refine Need.mk ⟨by omega, by first | omega | (simp; omega)⟩ (Elem.recs hga (by first | (rw [valv_eq]; exact ⟨rfl, rfl⟩) | exact ⟨rfl, rfl⟩) ?_)
      simp only [valv_eq, getJ, setJ, awH, ↓awD, awP, Nat.reduceLeDiff, Nat.reduceEqDiff, Nat.reduceAdd, Int.reduceLT, Int.reduceLE, Int.reduceEq]
      refine Need.mk ⟨by omega, by first | omega | (simp; omega)⟩ (Elem.recs hgb (by first | (rw [valv_eq]; exact ⟨rfl, rfl⟩) | exact ⟨rfl, rfl⟩) ?_)
      simp only [valv_eq, getK, getK1, setK1, awH, ↓awD, awP, Nat.reduceLeDiff, Nat.reduceEqDiff, Nat.reduceAdd, Int.reduceLT, Int.reduceLE, Int.reduceEq]
      refine EvF.ret (hpp _) ?_
      cases hx : p a b
      · rw [hx, Bool.false_and] at h2
        subst h2
        simp only [↓awD, awP, Nat.reduceLeDiff, Nat.reduceEqDiff, Nat.reduceAdd, Int.reduceLT, Int.reduceLE, Int.reduceEq]
        exact Fin.sameJ hcl rfl ⟨rfl, rfl⟩ (asc3 ..)
      · rw [hx, Bool.true_and] at h2
        simp only [w3, ↓awD, awP, Nat.reduceLeDiff, Nat.reduceEqDiff, Nat.reduceAdd, Int.reduceLT, Int.reduceLE, Int.reduceEq]
        exact ⟨(i + 1, J ++ [_] ++ [_]), ⟨by simp only; omega, h2⟩, by simp only; omega, weak_of (asc3 ..).symm (by simp [look])⟩
    · rintro J h2 e1
      rw [List.drop_eq_nil_of_le (by omega), List.drop_eq_nil_of_le (by omega)] at h2
      simp only [all2] at h2
      subst h2
      simp only [e1, List.length_map, ↓awD, awP, Nat.reduceLeDiff, Nat.reduceEqDiff, Nat.reduceAdd, Int.reduceLT, Int.reduceLE, Int.reduceEq]
      exact Fin.same hcl rfl ⟨rfl, rfl⟩

def eqStr (a b : ByteArray) : Bool := decide (a = b)
theorem all2_strs (l r : List ByteArray) : all2 eqStr l r = decide (l = r) := by
  rw [Bool.eq_iff_iff, decide_eq_true_eq]
  exact all2_iff fun x _ y => by simp [eqStr]
theorem strs_equal (l r : List ByteArray) (h : List AObj) (hl : l.length < 2 ^ 60) (hr : r.length < 2 ^ 60) : EvR E0 23 [strl l, strl r] h (boolv (decide (l = r))) := by
  rw [← all2_strs]
  refine ev_of (fn := Tryz.f23) (hs := []) Tryz.func23 c23 (by simp) fun hcl => ?_
  generalize hR : all2 eqStr l r = R
  have d0 : decide ((l.length : Int) = (r.length : Int)) = decide (l.length = r.length) := by rw [decide_eq_decide]; omega
  cases dl : decide (l.length = r.length)
  · simp only [ac23, List.length_map, d0, dl, ↓awD, awP, Nat.reduceLeDiff, Nat.reduceEqDiff, Nat.reduceAdd, Int.reduceLT, Int.reduceLE, Int.reduceEq]
    rw [decide_eq_false_iff_not] at dl
    rw [all2_len dl] at hR
    subst hR
    exact Fin.same0 hcl rfl ⟨rfl, rfl⟩
  · simp only [ac23, List.length_map, d0, dl, ↓awD, awP, Nat.reduceLeDiff, Nat.reduceEqDiff, Nat.reduceAdd, Int.reduceLT, Int.reduceLE, Int.reduceEq]
    rw [decide_eq_true_eq] at dl
    refine LoopF.list l hl (γ := Unit) (fun i _ => ⟨[(0, strl l), (1, strl r), (12, i64 l.length), (13, i64 i)], h⟩)
      (fun i _ => all2 eqStr (l.drop i) (r.drop i) = R) () (by simpa using hR) (weak_of rfl (by simp [look])) ?_ ?_
    · rintro i a _ ha h2 hi e1 w3
      obtain ⟨b, hb⟩ : ∃ b, r[i]? = some b := ⟨_, List.getElem?_eq_getElem (by omega)⟩
      have hga := map_get str l i a ha
      have hgb := map_get str r i b hb
      rw [drop_get ha, drop_get hb] at h2
      simp only [all2, eqStr] at h2
      simp only [e1, List.length_map, ↓awD, awP, Nat.reduceLeDiff, Nat.reduceEqDiff, Nat.reduceAdd, Int.reduceLT, Int.reduceLE, Int.reduceEq]
      refine Need.mk ⟨by omega, by first | omega | (simp; omega)⟩ (Elem.recs hga ⟨rfl, rfl⟩ ?_)
      simp only [List.length_map, awH, ↓awD, awP, Nat.reduceLeDiff, Nat.reduceEqDiff, Nat.reduceAdd, Int.reduceLT, Int.reduceLE, Int.reduceEq]
      refine Need.mk ⟨by omega, by first | omega | (simp; omega)⟩ (Elem.recs hgb ⟨rfl, rfl⟩ ?_)
      simp only [w3, awH, ↓awD, awP, Nat.reduceLeDiff, Nat.reduceEqDiff, Nat.reduceAdd, Int.reduceLT, Int.reduceLE, Int.reduceEq]
      cases he : decide (a = b)
      · simp only [he, Bool.false_and] at h2
        simp only [awH, ↓awD, awP, Nat.reduceLeDiff, Nat.reduceEqDiff, Nat.reduceAdd, Int.reduceLT, Int.reduceLE, Int.reduceEq]
        exact Fin.same0 hcl rfl ⟨by rw [← h2], rfl⟩
      · simp only [he, Bool.true_and] at h2
        simp only [w3, awH, ↓awD, awP, Nat.reduceLeDiff, Nat.reduceEqDiff, Nat.reduceAdd, Int.reduceLT, Int.reduceLE, Int.reduceEq]
        exact ⟨(i + 1, ()), ⟨hi, h2⟩, by simp only; omega, weak_of (rfl) (by simp [look])⟩
    · rintro _ h2 e1
      rw [List.drop_eq_nil_of_le (by omega), List.drop_eq_nil_of_le (by omega)] at h2
      simp only [all2] at h2
      subst h2
      simp only [e1, List.length_map, ↓awD, awP, Nat.reduceLeDiff, Nat.reduceEqDiff, Nat.reduceAdd, Int.reduceLT, Int.reduceLE, Int.reduceEq]
      exact Fin.same0 hcl rfl ⟨rfl, rfl⟩

theorem strs_index (l : List ByteArray) (s : ByteArray) (h : List AObj) (hl : l.length < 2 ^ 60) : EvR E0 32 [strl l, str s] h (i64 (idx (fun x => decide (s = x)) l 0)) := by
  refine ev_of (fn := Tryz.f32) (hs := []) Tryz.func32 c32 (by simp) fun hcl => ?_
  generalize hR : idx (fun x => decide (s = x)) l 0 = R
  simp only [ac32, awH, ↓awD, awP, Nat.reduceLeDiff, Nat.reduceEqDiff, Nat.reduceAdd, Int.reduceLT, Int.reduceLE, Int.reduceEq]
  refine LoopF.list l hl (γ := Unit) (fun i _ => ⟨[(0, strl l), (1, str s), (6, strl l), (7, i64 l.length), (8, i64 i)], h⟩) (fun i _ => idx (fun x => decide (s = x)) (l.drop i) i = R) () (by simpa using hR) (weak_of rfl (by simp [look])) ?_ ?_
  · rintro i a _ ha hv hi e1 w3
    rw [drop_get ha] at hv
    unfold idx at hv
    have hga := map_get str l i a ha
    simp only [e1, w3, awH, ↓awD, awP, Nat.reduceLeDiff, Nat.reduceEqDiff, Nat.reduceAdd, Int.reduceLT, Int.reduceLE, Int.reduceEq]
    repeat' (first | ((try refine Need.mk (by first | (first | omega | (simp only [awO] at *; omega) | (simp; omega)) | (constructor <;> (first | omega | (simp only [awO] at *; omega) | (simp; omega)))) ?_); refine Elem.recs hga (by first | (rw [str]; exact ⟨rfl, rfl⟩) | exact ⟨rfl, rfl⟩) ?_; simp only [str, w3, aw21, awH, ↓awD, awP, Nat.reduceLeDiff, Nat.reduceEqDiff, Nat.reduceAdd, Int.reduceLT, Int.reduceLE, Int.reduceEq]) | (refine BrF.mk (fun hb => ?_) (fun hb => ?_) <;> (try rw [hb]) <;> simp only [w3, aw21, awH, ↓awD, awP, Nat.reduceLeDiff, Nat.reduceEqDiff, Nat.reduceAdd, Int.reduceLT, Int.reduceLE, Int.reduceEq]))
    all_goals (simp only [*, if_true, if_false, Bool.false_eq_true] at hv)
    · subst hv; exact Fin.end hcl rfl (by first | rfl | exact (List.append_nil _).symm | (simp only [List.append_assoc]; rfl)) ⟨rfl, rfl⟩
    · exact ⟨(i + 1, ()), ⟨hi, hv⟩, by simp only; omega, weak_of (rfl) (by simp [look])⟩
  · rintro _ hv e1
    rw [drop_len] at hv
    unfold idx at hv
    subst hv
    simp only [e1, awH, ↓awD, awP, Nat.reduceLeDiff, Nat.reduceEqDiff, Nat.reduceAdd, Int.reduceLT, Int.reduceLE, Int.reduceEq]
    exact Fin.end hcl rfl (by first | rfl | exact (List.append_nil _).symm | (simp only [List.append_assoc]; rfl)) ⟨rfl, rfl⟩
theorem strs_has (l : List ByteArray) (s : ByteArray) (h : List AObj) (hl : l.length < 2 ^ 60) : EvR E0 57 [strl l, str s] h (boolv (l.any (fun x => decide (s = x)))) := by
  refine ev_of (fn := Tryz.f57) (hs := []) Tryz.func57 c57 (by simp) fun hcl => ?_
  simp only [ac57, ↓awD, awP, Nat.reduceLeDiff, Nat.reduceEqDiff, Nat.reduceAdd, Int.reduceLT, Int.reduceLE, Int.reduceEq]
  refine EvF.ret (strs_index l s h hl) ?_
  simp only [idx_any, ↓awD, awP, Nat.reduceLeDiff, Nat.reduceEqDiff, Nat.reduceAdd, Int.reduceLT, Int.reduceLE, Int.reduceEq]
  exact Fin.same0 hcl rfl ⟨rfl, rfl⟩

theorem val_idx (l : List Val) (f : FuncId) (caps : List AV) (p : Val → Bool) (h : List AObj) (hl : l.length < 2 ^ 60) (hp : ∀ s, s ∈ l → EvR E0 f (valv s :: caps.map AV.strip) h (boolv (p s))) :
    EvR E0 47 [.sl .unk (l.map valv), .fn (.func f) [] caps] h (i64 (idx p l 0)) := by
  refine ev_of (fn := Tryz.f47) (hs := []) Tryz.func47 c47 (by simp) fun hcl => ?_
  generalize hR : idx p l 0 = R
  simp only [ac47, awH, ↓awD, awP, Nat.reduceLeDiff, Nat.reduceEqDiff, Nat.reduceAdd, Int.reduceLT, Int.reduceLE, Int.reduceEq]
  refine LoopF.list l hl (γ := Unit) (fun i _ => ⟨[(0, .sl .unk (l.map valv)), (1, .fn (.func f) [] caps), (6, .sl .unk (l.map valv)), (7, i64 l.length), (8, i64 i)], h⟩) (fun i _ => idx p (l.drop i) i = R) () (by simpa using hR) (weak_of rfl (by simp [look])) ?_ ?_
  · rintro i a _ ha hv hi e1 w3
    rw [drop_get ha] at hv
    unfold idx at hv
    have hga := map_get valv l i a ha
    have hpa := hp a (List.mem_of_getElem? ha)
    simp only [valv_eq] at hpa
    simp only [e1, w3, awH, ↓awD, awP, Nat.reduceLeDiff, Nat.reduceEqDiff, Nat.reduceAdd, Int.reduceLT, Int.reduceLE, Int.reduceEq]
    repeat' (first | ((try refine Need.mk (by first | (first | omega | (simp only [awO] at *; omega) | (simp; omega)) | (constructor <;> (first | omega | (simp only [awO] at *; omega) | (simp; omega)))) ?_); refine Elem.recs hga (by first | (rw [valv_eq]; exact ⟨rfl, rfl⟩) | exact ⟨rfl, rfl⟩) ?_; simp only [valv_eq, w3, aw21, awH, ↓awD, awP, Nat.reduceLeDiff, Nat.reduceEqDiff, Nat.reduceAdd, Int.reduceLT, Int.reduceLE, Int.reduceEq]) | ((first | refine EvF.ret (hpa) ?_ | refine EvRF.ret (hpa) ?_); simp only [w3, aw21, awH, ↓awD, awP, Nat.reduceLeDiff, Nat.reduceEqDiff, Nat.reduceAdd, Int.reduceLT, Int.reduceLE, Int.reduceEq]) | (refine BrF.mk (fun hb => ?_) (fun hb => ?_) <;> (try rw [hb]) <;> simp only [w3, aw21, awH, ↓awD, awP, Nat.reduceLeDiff, Nat.reduceEqDiff, Nat.reduceAdd, Int.reduceLT, Int.reduceLE, Int.reduceEq]))
    all_goals (simp only [*, if_true, if_false, Bool.false_eq_true] at hv)
    · subst hv; exact Fin.end hcl rfl (by first | rfl | exact (List.append_nil _).symm | (simp only [List.append_assoc]; rfl)) ⟨rfl, rfl⟩
    · exact ⟨(i + 1, ()), ⟨hi, hv⟩, by simp only; omega, weak_of (rfl) (by simp [look])⟩
  · rintro _ hv e1
    rw [drop_len] at hv
    unfold idx at hv
    subst hv
    simp only [e1, awH, ↓awD, awP, Nat.reduceLeDiff, Nat.reduceEqDiff, Nat.reduceAdd, Int.reduceLT, Int.reduceLE, Int.reduceEq]
    exact Fin.end hcl rfl (by first | rfl | exact (List.append_nil _).symm | (simp only [List.append_assoc]; rfl)) ⟨rfl, rfl⟩
theorem val_any (l : List Val) (f : FuncId) (caps : List AV) (p : Val → Bool) (h : List AObj) (hl : l.length < 2 ^ 60) (hp : ∀ s, s ∈ l → EvR E0 f (valv s :: caps.map AV.strip) h (boolv (p s))) :
    EvR E0 30 [.sl .unk (l.map valv), .fn (.func f) [] caps] h (boolv (l.any p)) := by
  refine ev_of (fn := Tryz.f30) (hs := []) Tryz.func30 c30 (by simp) fun hcl => ?_
  simp only [ac30, ↓awD, awP, Nat.reduceLeDiff, Nat.reduceEqDiff, Nat.reduceAdd, Int.reduceLT, Int.reduceLE, Int.reduceEq]
  refine EvF.ret (val_idx l f caps p h hl hp) ?_
  simp only [idx_any, ↓awD, awP, Nat.reduceLeDiff, Nat.reduceEqDiff, Nat.reduceAdd, Int.reduceLT, Int.reduceLE, Int.reduceEq]
  exact Fin.same0 hcl rfl ⟨rfl, rfl⟩
theorem dsc_idx (l : List Dsc) (f : FuncId) (caps : List AV) (p : Dsc → Bool) (h : List AObj) (hl : l.length < 2 ^ 60) (hp : ∀ s, s ∈ l → EvR E0 f (dscv s :: caps.map AV.strip) h (boolv (p s))) :
    EvR E0 62 [.sl .unk (l.map dscv), .fn (.func f) [] caps] h (i64 (idx p l 0)) := by
  refine ev_of (fn := Tryz.f62) (hs := []) Tryz.func62 c62 (by simp) fun hcl => ?_
  generalize hR : idx p l 0 = R
  simp only [ac62, awH, ↓awD, awP, Nat.reduceLeDiff, Nat.reduceEqDiff, Nat.reduceAdd, Int.reduceLT, Int.reduceLE, Int.reduceEq]
  refine LoopF.list l hl (γ := Unit) (fun i _ => ⟨[(0, .sl .unk (l.map dscv)), (1, .fn (.func f) [] caps), (6, .sl .unk (l.map dscv)), (7, i64 l.length), (8, i64 i)], h⟩) (fun i _ => idx p (l.drop i) i = R) () (by simpa using hR) (weak_of rfl (by simp [look])) ?_ ?_
  · rintro i a _ ha hv hi e1 w3
    rw [drop_get ha] at hv
    unfold idx at hv
    have hga := map_get dscv l i a ha
    have hpa := hp a (List.mem_of_getElem? ha)
    simp only [dscv_eq] at hpa
    simp only [e1, w3, awH, ↓awD, awP, Nat.reduceLeDiff, Nat.reduceEqDiff, Nat.reduceAdd, Int.reduceLT, Int.reduceLE, Int.reduceEq]
    repeat' (first | ((try refine Need.mk (by first | (first | omega | (simp only [awO] at *; omega) | (simp; omega)) | (constructor <;> (first | omega | (simp only [awO] at *; omega) | (simp; omega)))) ?_); refine Elem.recs hga (by first | (rw [dscv_eq]; exact ⟨rfl, rfl⟩) | exact ⟨rfl, rfl⟩) ?_; simp only [dscv_eq, w3, aw21, awH, ↓awD, awP, Nat.reduceLeDiff, Nat.reduceEqDiff, Nat.reduceAdd, Int.reduceLT, Int.reduceLE, Int.reduceEq]) | ((first | refine EvF.ret (hpa) ?_ | refine EvRF.ret (hpa) ?_); simp only [w3, aw21, awH, ↓awD, awP, Nat.reduceLeDiff, Nat.reduceEqDiff, Nat.reduceAdd, Int.reduceLT, Int.reduceLE, Int.reduceEq]) | (refine BrF.mk (fun hb => ?_) (fun hb => ?_) <;> (try rw [hb]) <;> simp only [w3, aw21, awH, ↓awD, awP, Nat.reduceLeDiff, Nat.reduceEqDiff, Nat.reduceAdd, Int.reduceLT, Int.reduceLE, Int.reduceEq]))
    all_goals (simp only [*, if_true, if_false, Bool.false_eq_true] at hv)
    · subst hv; exact Fin.end hcl rfl (by first | rfl | exact (List.append_nil _).symm | (simp only [List.append_assoc]; rfl)) ⟨rfl, rfl⟩
    · exact ⟨(i + 1, ()), ⟨hi, hv⟩, by simp only; omega, weak_of (rfl) (by simp [look])⟩
  · rintro _ hv e1
    rw [drop_len] at hv
    unfold idx at hv
    subst hv
    simp only [e1, awH, ↓awD, awP, Nat.reduceLeDiff, Nat.reduceEqDiff, Nat.reduceAdd, Int.reduceLT, Int.reduceLE, Int.reduceEq]
    exact Fin.end hcl rfl (by first | rfl | exact (List.append_nil _).symm | (simp only [List.append_assoc]; rfl)) ⟨rfl, rfl⟩
theorem dsc_any (l : List Dsc) (f : FuncId) (caps : List AV) (p : Dsc → Bool) (h : List AObj) (hl : l.length < 2 ^ 60) (hp : ∀ s, s ∈ l → EvR E0 f (dscv s :: caps.map AV.strip) h (boolv (p s))) :
    EvR E0 43 [.sl .unk (l.map dscv), .fn (.func f) [] caps] h (boolv (l.any p)) := by
  refine ev_of (fn := Tryz.f43) (hs := []) Tryz.func43 c43 (by simp) fun hcl => ?_
  simp only [ac43, ↓awD, awP, Nat.reduceLeDiff, Nat.reduceEqDiff, Nat.reduceAdd, Int.reduceLT, Int.reduceLE, Int.reduceEq]
  refine EvF.ret (dsc_idx l f caps p h hl hp) ?_
  simp only [idx_any, ↓awD, awP, Nat.reduceLeDiff, Nat.reduceEqDiff, Nat.reduceAdd, Int.reduceLT, Int.reduceLE, Int.reduceEq]
  exact Fin.same0 hcl rfl ⟨rfl, rfl⟩
theorem rg_idx (l : List Rg) (f : FuncId) (caps : List AV) (p : Rg → Bool) (h : List AObj) (hl : l.length < 2 ^ 60) (hp : ∀ s, s ∈ l → EvR E0 f (rgv s :: caps.map AV.strip) h (boolv (p s))) :
    EvR E0 89 [.sl .unk (l.map rgv), .fn (.func f) [] caps] h (i64 (idx p l 0)) := by
  refine ev_of (fn := Tryz.f89) (hs := []) Tryz.func89 c89 (by simp) fun hcl => ?_
  generalize hR : idx p l 0 = R
  simp only [ac89, awH, ↓awD, awP, Nat.reduceLeDiff, Nat.reduceEqDiff, Nat.reduceAdd, Int.reduceLT, Int.reduceLE, Int.reduceEq]
  refine LoopF.list l hl (γ := Unit) (fun i _ => ⟨[(0, .sl .unk (l.map rgv)), (1, .fn (.func f) [] caps), (6, .sl .unk (l.map rgv)), (7, i64 l.length), (8, i64 i)], h⟩) (fun i _ => idx p (l.drop i) i = R) () (by simpa using hR) (weak_of rfl (by simp [look])) ?_ ?_
  · rintro i a _ ha hv hi e1 w3
    rw [drop_get ha] at hv
    unfold idx at hv
    have hga := map_get rgv l i a ha
    have hpa := hp a (List.mem_of_getElem? ha)
    simp only [rgv_eq] at hpa
    simp only [e1, w3, awH, ↓awD, awP, Nat.reduceLeDiff, Nat.reduceEqDiff, Nat.reduceAdd, Int.reduceLT, Int.reduceLE, Int.reduceEq]
    repeat' (first | ((try refine Need.mk (by first | (first | omega | (simp only [awO] at *; omega) | (simp; omega)) | (constructor <;> (first | omega | (simp only [awO] at *; omega) | (simp; omega)))) ?_); refine Elem.recs hga (by first | (rw [rgv_eq]; exact ⟨rfl, rfl⟩) | exact ⟨rfl, rfl⟩) ?_; simp only [rgv_eq, w3, aw21, awH, ↓awD, awP, Nat.reduceLeDiff, Nat.reduceEqDiff, Nat.reduceAdd, Int.reduceLT, Int.reduceLE, Int.reduceEq]) | ((first | refine EvF.ret (hpa) ?_ | refine EvRF.ret (hpa) ?_); simp only [w3, aw21, awH, ↓awD, awP, Nat.reduceLeDiff, Nat.reduceEqDiff, Nat.reduceAdd, Int.reduceLT, Int.reduceLE, Int.reduceEq]) | (refine BrF.mk (fun hb => ?_) (fun hb => ?_) <;> (try rw [hb]) <;> simp only [w3, aw21, awH, ↓awD, awP, Nat.reduceLeDiff, Nat.reduceEqDiff, Nat.reduceAdd, Int.reduceLT, Int.reduceLE, Int.reduceEq]))
    all_goals (simp only [*, if_true, if_false, Bool.false_eq_true] at hv)
    · subst hv; exact Fin.end hcl rfl (by first | rfl | exact (List.append_nil _).symm | (simp only [List.append_assoc]; rfl)) ⟨rfl, rfl⟩
    · exact ⟨(i + 1, ()), ⟨hi, hv⟩, by simp only; omega, weak_of (rfl) (by simp [look])⟩
  · rintro _ hv e1
    rw [drop_len] at hv
    unfold idx at hv
    subst hv
    simp only [e1, awH, ↓awD, awP, Nat.reduceLeDiff, Nat.reduceEqDiff, Nat.reduceAdd, Int.reduceLT, Int.reduceLE, Int.reduceEq]
    exact Fin.end hcl rfl (by first | rfl | exact (List.append_nil _).symm | (simp only [List.append_assoc]; rfl)) ⟨rfl, rfl⟩
theorem rg_any (l : List Rg) (f : FuncId) (caps : List AV) (p : Rg → Bool) (h : List AObj) (hl : l.length < 2 ^ 60) (hp : ∀ s, s ∈ l → EvR E0 f (rgv s :: caps.map AV.strip) h (boolv (p s))) :
    EvR E0 70 [.sl .unk (l.map rgv), .fn (.func f) [] caps] h (boolv (l.any p)) := by
  refine ev_of (fn := Tryz.f70) (hs := []) Tryz.func70 c70 (by simp) fun hcl => ?_
  simp only [ac70, ↓awD, awP, Nat.reduceLeDiff, Nat.reduceEqDiff, Nat.reduceAdd, Int.reduceLT, Int.reduceLE, Int.reduceEq]
  refine EvF.ret (rg_idx l f caps p h hl hp) ?_
  simp only [idx_any, ↓awD, awP, Nat.reduceLeDiff, Nat.reduceEqDiff, Nat.reduceAdd, Int.reduceLT, Int.reduceLE, Int.reduceEq]
  exact Fin.same0 hcl rfl ⟨rfl, rfl⟩
theorem fld_idx (l : List Fld) (f : FuncId) (caps : List AV) (p : Fld → Bool) (h : List AObj) (hl : l.length < 2 ^ 60) (hp : ∀ s, s ∈ l → EvR E0 f (fldv s :: caps.map AV.strip) h (boolv (p s))) :
    EvR E0 73 [.sl .unk (l.map fldv), .fn (.func f) [] caps] h (i64 (idx p l 0)) := by
  refine ev_of (fn := Tryz.f73) (hs := []) Tryz.func73 c73 (by simp) fun hcl => ?_
  generalize hR : idx p l 0 = R
  simp only [ac73, awH, ↓awD, awP, Nat.reduceLeDiff, Nat.reduceEqDiff, Nat.reduceAdd, Int.reduceLT, Int.reduceLE, Int.reduceEq]
  refine LoopF.list l hl (γ := Unit) (fun i _ => ⟨[(0, .sl .unk (l.map fldv)), (1, .fn (.func f) [] caps), (6, .sl .unk (l.map fldv)), (7, i64 l.length), (8, i64 i)], h⟩) (fun i _ => idx p (l.drop i) i = R) () (by simpa using hR) (weak_of rfl (by simp [look])) ?_ ?_
  · rintro i a _ ha hv hi e1 w3
    rw [drop_get ha] at hv
    unfold idx at hv
    have hga := map_get fldv l i a ha
    have hpa := hp a (List.mem_of_getElem? ha)
    simp only [fldv_eq] at hpa
    simp only [e1, w3, awH, ↓awD, awP, Nat.reduceLeDiff, Nat.reduceEqDiff, Nat.reduceAdd, Int.reduceLT, Int.reduceLE, Int.reduceEq]
    repeat' (first | ((try refine Need.mk (by first | (first | omega | (simp only [awO] at *; omega) | (simp; omega)) | (constructor <;> (first | omega | (simp only [awO] at *; omega) | (simp; omega)))) ?_); refine Elem.recs hga (by first | (rw [fldv_eq]; exact ⟨rfl, rfl⟩) | exact ⟨rfl, rfl⟩) ?_; simp only [fldv_eq, w3, aw21, awH, ↓awD, awP, Nat.reduceLeDiff, Nat.reduceEqDiff, Nat.reduceAdd, Int.reduceLT, Int.reduceLE, Int.reduceEq]) | ((first | refine EvF.ret (hpa) ?_ | refine EvRF.ret (hpa) ?_); simp only [w3, aw21, awH, ↓awD, awP, Nat.reduceLeDiff, Nat.reduceEqDiff, Nat.reduceAdd, Int.reduceLT, Int.reduceLE, Int.reduceEq]) | (refine BrF.mk (fun hb => ?_) (fun hb => ?_) <;> (try rw [hb]) <;> simp only [w3, aw21, awH, ↓awD, awP, Nat.reduceLeDiff, Nat.reduceEqDiff, Nat.reduceAdd, Int.reduceLT, Int.reduceLE, Int.reduceEq]))
    all_goals (simp only [*, if_true, if_false, Bool.false_eq_true] at hv)
    · subst hv; exact Fin.end hcl rfl (by first | rfl | exact (List.append_nil _).symm | (simp only [List.append_assoc]; rfl)) ⟨rfl, rfl⟩
    · exact ⟨(i + 1, ()), ⟨hi, hv⟩, by simp only; omega, weak_of (rfl) (by simp [look])⟩
  · rintro _ hv e1
    rw [drop_len] at hv
    unfold idx at hv
    subst hv
    simp only [e1, awH, ↓awD, awP, Nat.reduceLeDiff, Nat.reduceEqDiff, Nat.reduceAdd, Int.reduceLT, Int.reduceLE, Int.reduceEq]
    exact Fin.end hcl rfl (by first | rfl | exact (List.append_nil _).symm | (simp only [List.append_assoc]; rfl)) ⟨rfl, rfl⟩
theorem fld_any (l : List Fld) (f : FuncId) (caps : List AV) (p : Fld → Bool) (h : List AObj) (hl : l.length < 2 ^ 60) (hp : ∀ s, s ∈ l → EvR E0 f (fldv s :: caps.map AV.strip) h (boolv (p s))) :
    EvR E0 80 [.sl .unk (l.map fldv), .fn (.func f) [] caps] h (boolv (l.any p)) := by
  refine ev_of (fn := Tryz.f80) (hs := []) Tryz.func80 c80 (by simp) fun hcl => ?_
  simp only [ac80, ↓awD, awP, Nat.reduceLeDiff, Nat.reduceEqDiff, Nat.reduceAdd, Int.reduceLT, Int.reduceLE, Int.reduceEq]
  refine EvF.ret (fld_idx l f caps p h hl hp) ?_
  simp only [idx_any, ↓awD, awP, Nat.reduceLeDiff, Nat.reduceEqDiff, Nat.reduceAdd, Int.reduceLT, Int.reduceLE, Int.reduceEq]
  exact Fin.same0 hcl rfl ⟨rfl, rfl⟩

def ac46 : ACode := (.seq (.region [oq 2 (.move (.const (.slice none 0 0)))]) (.seq (.region [oq 3 (.move (ci 0))]) (.seq (.seq (.region [oq 9 (qm 0), oq 10 (qn 9), oq 11 (.move (ci 0))]) (.block 0 (.loop (.seq (.region [oq 12 (.bin .lss (tq 11) (tq 10))]) (.seq (.cond (tq 12) .skip (.exit 0)) (.seq (.block 1 (.seq (.region [oq 13 (qx 1 9 11), oq 14 (ql 13), oq 5 (qm 14)]) (.seq (.region [oq 15 (qm 3), oq 16 (qm 5), oq 17 (qn 16), oq 18 (.bin .add (tq 15) (tq 17)), oq 3 (qm 18)]) (.seq (.region [oq 19 (qm 3), oq 20 (.bin .lss (tq 19) (ci 0))]) (.cond (tq 20) (.region [oq 21 (.mkIface 9 (.const (.string (⟨#[108, 101, 110, 32, 111, 117, 116, 32, 111, 102, 32, 114, 97, 110, 103, 101]⟩ : ByteArray)))), oz (.panic (tq 21))]) .skip))))) (.region [oq 22 (.bin .add (tq 11) (ci 1)), oq 11 (qm 22)]))))))) (.seq (.region [oq 23 (qm 3), oq 24 (.call (.func 68) [((.const (.slice none 0 0)), false), ((tq 23), false)]), oq 6 (qm 24)]) (.seq (.seq (.region [oq 25 (qm 0), oq 26 (qn 25), oq 27 (.move (ci 0))]) (.block 2 (.loop (.seq (.region [oq 28 (.bin .lss (tq 27) (tq 26))]) (.seq (.cond (tq 28) .skip (.exit 2)) (.seq (.block 3 (.seq (.region [oq 29 (qx 1 25 27), oq 30 (ql 29), oq 8 (qm 30)]) (.region [oq 31 (qm 6), oq 32 (qm 8), oq 33 (.appendO 4 56 [zs, zi, zb, zn] (tq 31) (tq 32)), oq 6 (qm 33)]))) (.region [oq 34 (.bin .add (tq 27) (ci 1)), oq 27 (qm 34)]))))))) (.seq (.region [oq 35 (qm 6), oq 2 (qm 35)]) .ret))))))
theorem c46 : cfn E0.P [(13,2)] Tryz.f46 = some (ac46, [(.tmp 2)], 36) := by kernel_rfl
def ac68 : ACode := (.seq (.region [oq 4 (.move (.const (.slice none 0 0)))]) (.seq (.seq (.region [oq 5 (qm 1), oq 6 (.bin .lss (tq 5) (ci 0))]) (.cond (tq 6) (.region [oq 7 (.mkIface 9 (.const (.string (⟨#[99, 97, 110, 110, 111, 116, 32, 98, 101, 32, 110, 101, 103, 97, 116, 105, 118, 101]⟩ : ByteArray)))), oz (.panic (tq 7))]) .skip)) (.seq (.seq (.region [oq 8 (qm 1), oq 9 (qm 0), oq 10 (.capS (tq 9)), oq 11 (qm 0), oq 12 (qn 11), oq 13 (.bin .sub (tq 10) (tq 12)), oq 14 (.bin .sub (tq 8) (tq 13)), oq 1 (qm 14)]) (.seq (.region [oq 15 (qm 1), oq 16 (.bin .gtr (tq 15) (ci 0))]) (.cond (tq 16) (.region [oq 17 (qm 0), oq 18 (qm 0), oq 19 (.capS (tq 18)), oq 20 (.slice 4 (tq 17) none (some (tq 19))), oq 21 (qm 1), oq 22 (.appendZ 4 56 [zs, zi, zb, zn] (tq 20) (tq 21)), oq 23 (qm 0), oq 24 (qn 23), oq 25 (.slice 4 (tq 22) none (some (tq 24))), oq 0 (qm 25)]) .skip))) (.seq (.region [oq 26 (qm 0), oq 4 (qm 26)]) .ret))))
theorem c68 : cfn E0.P [] Tryz.f68 = some (ac68, [(.tmp 4)], 27) := by kernel_rfl
def ac79 : ACode := (.seq (.region [oq 2 (.move (.const (.slice none 0 0)))]) (.seq (.region [oq 3 (.move (ci 0))]) (.seq (.seq (.region [oq 9 (qm 0), oq 10 (qn 9), oq 11 (.move (ci 0))]) (.block 0 (.loop (.seq (.region [oq 12 (.bin .lss (tq 11) (tq 10))]) (.seq (.cond (tq 12) .skip (.exit 0)) (.seq (.block 1 (.seq (.region [oq 13 (qx 1 9 11), oq 14 (ql 13), oq 5 (qm 14)]) (.seq (.region [oq 15 (qm 3), oq 16 (qm 5), oq 17 (qn 16), oq 18 (.bin .add (tq 15) (tq 17)), oq 3 (qm 18)]) (.seq (.region [oq 19 (qm 3), oq 20 (.bin .lss (tq 19) (ci 0))]) (.cond (tq 20) (.region [oq 21 (.mkIface 9 (.const (.string (⟨#[108, 101, 110, 32, 111, 117, 116, 32, 111, 102, 32, 114, 97, 110, 103, 101]⟩ : ByteArray)))), oz (.panic (tq 21))]) .skip))))) (.region [oq 22 (.bin .add (tq 11) (ci 1)), oq 11 (qm 22)]))))))) (.seq (.region [oq 23 (qm 3), oq 24 (.call (.func 92) [((.const (.slice none 0 0)), false), ((tq 23), false)]), oq 6 (qm 24)]) (.seq (.seq (.region [oq 25 (qm 0), oq 26 (qn 25), oq 27 (.move (ci 0))]) (.block 2 (.loop (.seq (.region [oq 28 (.bin .lss (tq 27) (tq 26))]) (.seq (.cond (tq 28) .skip (.exit 2)) (.seq (.block 3 (.seq (.region [oq 29 (qx 1 25 27), oq 30 (ql 29), oq 8 (qm 30)]) (.region [oq 31 (qm 6), oq 32 (qm 8), oq 33 (.appendO 1 16 [zs] (tq 31) (tq 32)), oq 6 (qm 33)]))) (.region [oq 34 (.bin .add (tq 27) (ci 1)), oq 27 (qm 34)]))))))) (.seq (.region [oq 35 (qm 6), oq 2 (qm 35)]) .ret))))))
theorem c79 : cfn E0.P [(13,2)] Tryz.f79 = some (ac79, [(.tmp 2)], 36) := by kernel_rfl
def ac92 : ACode := (.seq (.region [oq 4 (.move (.const (.slice none 0 0)))]) (.seq (.seq (.region [oq 5 (qm 1), oq 6 (.bin .lss (tq 5) (ci 0))]) (.cond (tq 6) (.region [oq 7 (.mkIface 9 (.const (.string (⟨#[99, 97, 110, 110, 111, 116, 32, 98, 101, 32, 110, 101, 103, 97, 116, 105, 118, 101]⟩ : ByteArray)))), oz (.panic (tq 7))]) .skip)) (.seq (.seq (.region [oq 8 (qm 1), oq 9 (qm 0), oq 10 (.capS (tq 9)), oq 11 (qm 0), oq 12 (qn 11), oq 13 (.bin .sub (tq 10) (tq 12)), oq 14 (.bin .sub (tq 8) (tq 13)), oq 1 (qm 14)]) (.seq (.region [oq 15 (qm 1), oq 16 (.bin .gtr (tq 15) (ci 0))]) (.cond (tq 16) (.region [oq 17 (qm 0), oq 18 (qm 0), oq 19 (.capS (tq 18)), oq 20 (.slice 1 (tq 17) none (some (tq 19))), oq 21 (qm 1), oq 22 (.appendZ 1 16 [zs] (tq 20) (tq 21)), oq 23 (qm 0), oq 24 (qn 23), oq 25 (.slice 1 (tq 22) none (some (tq 24))), oq 0 (qm 25)]) .skip))) (.seq (.region [oq 26 (qm 0), oq 4 (qm 26)]) .ret))))
theorem c92 : cfn E0.P [] Tryz.f92 = some (ac92, [(.tmp 4)], 27) := by kernel_rfl

theorem und_lits {α : Type} (f : α → AV) (hf : ∀ a n, AV.under n (f a) = true) (n : Nat) : ∀ (l : List α), unders n (l.map f) = true := fun l => unders_of fun x hx => by
  obtain ⟨c, _, rfl⟩ := List.mem_map.1 hx; exact hf c n
mutual
theorem und_val (n : Nat) : ∀ (v : Val), AV.under n (valv v) = true
  | .mk k m s ns l _ => by
    have h1 := und_lits (fun s : ByteArray => str s) (fun _ _ => rfl) n ns
    have h2 := und_valsv n l
    simp only [valv, AV.under, unders, Bool.and_eq_true, Bool.and_true, true_and]
    exact ⟨h1, h2⟩
theorem und_valsv (n : Nat) : ∀ (l : List Val), unders n (valsv l) = true
  | [] => rfl
  | v :: l => by simp only [valsv, unders, Bool.and_eq_true]; exact ⟨und_val n v, und_valsv n l⟩
end
theorem und_vals (n : Nat) (l : List Val) : unders n (l.map valv) = true := by rw [← valsv_map]; exact und_valsv n l

theorem und_strs (n : Nat) (l : List ByteArray) : unders n (l.map fun s => AV.lit (.string s)) = true := und_lits _ (fun _ _ => rfl) n l
theorem und_ints (n : Nat) (l : List Int) : unders n (l.map fun s => AV.lit (.int .i64 s)) = true := und_lits _ (fun _ _ => rfl) n l
theorem und_rgs (n : Nat) (l : List Rg) : unders n (l.map rgv) = true := und_lits _ (fun _ _ => rfl) n l
theorem und_flds (n : Nat) (l : List Fld) : unders n (l.map fldv) = true := und_lits _ (fun a n => by simp only [fldv, AV.under, unders, und_vals, Bool.and_self]) n l
theorem und_dsc (n : Nat) (d : Dsc) : AV.under n (dscv d) = true := by simp only [dscv, AV.under, unders, und_strs, und_ints, und_rgs, und_flds, Bool.and_self]
theorem und_dscs (n : Nat) (l : List Dsc) : unders n (l.map dscv) = true := und_lits _ (fun a n => und_dsc n a) n l

theorem flds_fit (l : List Fld) : Fit 4 (l.map fldv) := by
  intro e he; obtain ⟨c, _, rfl⟩ := List.mem_map.1 he; exact ⟨rfl, rfl⟩
theorem flds_one (l : List Fld) : allOne (l.map fldv) := by
  intro e he; obtain ⟨c, _, rfl⟩ := List.mem_map.1 he; rfl
theorem flds_strip : ∀ (l : List Fld), (flatC (l.map fldv)).map AV.strip = flatC (l.map fldv)
  | [] => rfl
  | a :: l => by
    have := flds_strip l
    simp only [flatC] at this ⊢
    simp only [List.map_cons, List.flatMap_cons, List.map_append, this]
    rfl
theorem flds_und {n : Nat} (c : Fld) : ∀ x, x ∈ (fldv c).cells → AV.under n x = true := by
  intro x hx
  have : unders n (fldv c).cells = true := (by simp [fldv, AV.cells, unders, AV.under, und_vals])
  obtain ⟨i, hi⟩ := List.getElem?_of_mem hx
  exact unders_get this hi
theorem flds_grow (n : Int) (h : List AObj) (h0 : 0 ≤ n) (hn : n ≤ 2 ^ 40) : Ev E0 68 [.sl .full [], i64 n] h (fun r h' => (n = 0 ∧ r = .ret (.sl .full []) ∧ h' = h) ∨
    (0 < n ∧ ∃ cap : Nat, n ≤ cap ∧ r = .ret (.vw h.length 0 0 cap) ∧ h' = h ++ [AObj.cells (dynL [.lit (.string ⟨#[]⟩), .lit (.int .i64 0), .lit (.bool false), .sl .full []] [] cap)])) := by
  refine ev_of (fn := Tryz.f68) (hs := []) Tryz.func68 c68 (by simp) fun hcl => ?_
  have d0 : decide (n < 0) = false := by rw [decide_eq_false_iff_not]; omega
  have w0 : IntKind.i64.wrap ((0 : Int) - 0) = 0 := rfl
  have w1 : IntKind.i64.wrap (n - 0) = n := by rw [wrap_i64] <;> omega
  simp only [ac68, d0, w0, w1, List.length_nil, Int.cast_ofNat_Int, awH, ↓awD, awP, Nat.reduceLeDiff, Nat.reduceEqDiff, Nat.reduceAdd, Int.reduceLT, Int.reduceLE, Int.reduceEq]
  refine BrF.mk (fun hb => ?_) (fun hb => ?_) <;> (try rw [hb]) <;> simp only [awH, ↓awD, awP, Nat.reduceLeDiff, Nat.reduceEqDiff, Nat.reduceAdd, Int.reduceLT, Int.reduceLE, Int.reduceEq]
  · rw [decide_eq_true_eq] at hb
    refine Need.mk (by simp) ?_
    simp only [List.take_nil, List.drop_nil, awH, ↓awD, awP, Nat.reduceLeDiff, Nat.reduceEqDiff, Nat.reduceAdd, Int.reduceLT, Int.reduceLE, Int.reduceEq]
    refine Need.mk (by (repeat' apply And.intro) <;> first | decide | rfl | omega) (ZerF.mk (fun h => absurd h (by omega)) (fun _ cap' hc => ?_))
    simp only [dyn_zero _ _ _ hc, offAt0, awH, ↓awD, awP, Nat.reduceLeDiff, Nat.reduceEqDiff, Nat.reduceAdd, Int.reduceLT, Int.reduceLE, Int.reduceEq]
    refine Need.mk (by omega) ?_
    simp only [offAt0, Int.toNat_zero, Nat.sub_zero, awH, ↓awD, awP, Nat.reduceLeDiff, Nat.reduceEqDiff, Nat.reduceAdd, Int.reduceLT, Int.reduceLE, Int.reduceEq]
    exact Fin.here (by simp) (hcl.app (unders_dyn rfl rfl)) (by simp [AV.under]) (.inr ⟨hb, cap', by omega, rfl, rfl⟩)
  · rw [decide_eq_false_iff_not] at hb
    exact Fin.same0 hcl rfl (.inl ⟨by omega, rfl, rfl⟩)
def flds_lst (l : List Fld) : AV := .sl .unk (l.map fldv)
theorem flds_cat (ls : List (List Fld)) (h : List AObj) (hl : ls.length ≤ 2 ^ 30) (hs : ls.flatten.length ≤ 2 ^ 40) : EvR E0 46 [.sl .full (ls.map flds_lst)] h (.sl .unk (ls.flatten.map fldv)) := by
  refine Ev.frozen [.lit (.string ⟨#[]⟩), .lit (.int .i64 0), .lit (.bool false), .sl .full []] 4 (flds_fit _) (flds_one _) ?_ rfl ?_
  · refine unders_of fun x hx => ?_
    simp only [flatC, List.mem_flatMap, List.mem_map] at hx
    obtain ⟨_, ⟨c, _, rfl⟩, hx⟩ := hx
    exact flds_und c x hx
  refine ev_of (fn := Tryz.f46) (hs := [(13, 2)]) Tryz.func46 c46 (by simp) fun hcl => ?_
  simp only [ac46, awH, ↓awD, awP, Nat.reduceLeDiff, Nat.reduceEqDiff, Nat.reduceAdd, Int.reduceLT, Int.reduceLE, Int.reduceEq]
  refine LoopF.cut 0 (fun σ => σ.heap = h ∧ look σ.tmps 0 = .sl .full (ls.map flds_lst) ∧ look σ.tmps 3 = i64 ls.flatten.length) ?_ ?_
  · intro Q' hx _ _
    refine LoopF.list ls (by omega) (γ := Nat) (fun i g => ⟨[(0, .sl .full (ls.map flds_lst)), (3, i64 g), (9, .sl .full (ls.map flds_lst)), (10, i64 ls.length), (11, i64 i)], h⟩)
      (fun i g => g + (ls.drop i).flatten.length = ls.flatten.length) 0 (by simp) (weak_of rfl (by simp [look])) ?_ ?_
    · rintro i a g ha hv hi e1 w3
      rw [drop_get ha, List.flatten_cons, List.length_append] at hv
      have hga := map_get flds_lst ls i a ha
      have w1 : IntKind.i64.wrap ((g : Int) + (a.length : Int)) = ((g + a.length : Nat) : Int) := by rw [wrap_i64] <;> omega
      have d1 : decide (((g + a.length : Nat) : Int) < 0) = false := by rw [decide_eq_false_iff_not]; omega
      simp only [e1, w3, awH, ↓awD, awP, Nat.reduceLeDiff, Nat.reduceEqDiff, Nat.reduceAdd, Int.reduceLT, Int.reduceLE, Int.reduceEq]
      ((try refine Need.mk (by first | (first | omega | (simp only [awO] at *; omega) | (simp; omega)) | (constructor <;> (first | omega | (simp only [awO] at *; omega) | (simp; omega)))) ?_); refine Elem.recs hga (by first | (rw [flds_lst]; exact ⟨rfl, rfl⟩) | exact ⟨rfl, rfl⟩) ?_; simp only [flds_lst, w1, d1, w3, aw21, awH, ↓awD, awP, Nat.reduceLeDiff, Nat.reduceEqDiff, Nat.reduceAdd, Int.reduceLT, Int.reduceLE, Int.reduceEq])
      have hv2 : g + a.length + (ls.drop (i + 1)).flatten.length = ls.flatten.length := by omega
      exact ⟨(i + 1, (g + a.length)), ⟨hi, hv2⟩, by simp only; omega, weak_of (rfl) (by simp [look])⟩
    · rintro g hv e1
      rw [drop_len] at hv
      simp only [List.flatten_nil, List.length_nil, Nat.add_zero] at hv
      subst hv
      simp only [e1, awH, ↓awD, awP, Nat.reduceLeDiff, Nat.reduceEqDiff, Nat.reduceAdd, Int.reduceLT, Int.reduceLE, Int.reduceEq]
      exact hx _ ⟨rfl, by simp [look], by simp [look]⟩
  rintro ⟨tm, hp⟩ ⟨h0, k0, k3⟩
  simp only at h0 k0 k3
  subst h0
  simp only [k0, k3, awH, ↓awD, awP, Nat.reduceLeDiff, Nat.reduceEqDiff, Nat.reduceAdd, Int.reduceLT, Int.reduceLE, Int.reduceEq]
  refine EvF.use (flds_grow _ hp (by omega) (by omega)) ?_
  rintro r h' (⟨h1, rfl, rfl⟩ | ⟨h1, cap, h2, rfl, rfl⟩)
  · have hz : ls.flatten = [] := List.length_eq_zero_iff.1 (by omega)
    simp only [k0, awH, ↓awD, awP, Nat.reduceLeDiff, Nat.reduceEqDiff, Nat.reduceAdd, Int.reduceLT, Int.reduceLE, Int.reduceEq]
    refine LoopF.list ls (by omega) (γ := Unit) (fun i _ => ⟨[(6, .sl .full []), (25, .sl .full (ls.map flds_lst)), (26, i64 ls.length), (27, i64 i)], h'⟩) (fun i _ => True) () trivial (weak_of rfl (by simp [look])) ?_ ?_
    · rintro i a _ ha _ hi e1 w3
      have hga := map_get flds_lst ls i a ha
      have hna : a = [] := List.flatten_eq_nil_iff.1 hz a (List.mem_of_getElem? ha)
      subst hna
      simp only [e1, w3, awH, ↓awD, awP, Nat.reduceLeDiff, Nat.reduceEqDiff, Nat.reduceAdd, Int.reduceLT, Int.reduceLE, Int.reduceEq]
      ((try refine Need.mk (by first | (first | omega | (simp only [awO] at *; omega) | (simp; omega)) | (constructor <;> (first | omega | (simp only [awO] at *; omega) | (simp; omega)))) ?_); refine Elem.recs hga (by first | (rw [flds_lst]; exact ⟨rfl, rfl⟩) | exact ⟨rfl, rfl⟩) ?_; simp only [flds_lst, w3, aw21, awH, ↓awD, awP, Nat.reduceLeDiff, Nat.reduceEqDiff, Nat.reduceAdd, Int.reduceLT, Int.reduceLE, Int.reduceEq])
      simp only [awApp, w3, awH, ↓awD, awP, Nat.reduceLeDiff, Nat.reduceEqDiff, Nat.reduceAdd, Int.reduceLT, Int.reduceLE, Int.reduceEq]
      refine Need.mk (by (repeat' apply And.intro) <;> first | decide | rfl | exact (fun e he => by cases he) | (simp; done)) (AppF.mk (fun _ => ⟨rfl, ?_⟩) (fun hn => absurd rfl hn))
      simp only [w3, awH, ↓awD, awP, Nat.reduceLeDiff, Nat.reduceEqDiff, Nat.reduceAdd, Int.reduceLT, Int.reduceLE, Int.reduceEq]
      exact ⟨(i + 1, ()), hi, by simp only; omega, weak_of (rfl) (by simp [look])⟩
    · rintro _ _ e1
      simp only [e1, awH, ↓awD, awP, Nat.reduceLeDiff, Nat.reduceEqDiff, Nat.reduceAdd, Int.reduceLT, Int.reduceLE, Int.reduceEq]
      exact Fin.same0 hcl rfl (.inl ⟨.full, by rw [hz]; rfl, rfl⟩)
  · simp only [k0, awH, ↓awD, awP, Nat.reduceLeDiff, Nat.reduceEqDiff, Nat.reduceAdd, Int.reduceLT, Int.reduceLE, Int.reduceEq]
    refine LoopF.list ls (by omega) (γ := Unit) (fun i _ => ⟨[(6, .vw hp.length 0 (ls.take i).flatten.length cap), (25, .sl .full (ls.map flds_lst)), (26, i64 ls.length), (27, i64 i)], hp ++ [AObj.cells (dynL [.lit (.string ⟨#[]⟩), .lit (.int .i64 0), .lit (.bool false), .sl .full []] ((ls.take i).flatten.map fldv) cap)]⟩)
      (fun i _ => True) () trivial (weak_of rfl (by simp [look])) ?_ ?_
    · rintro i a _ ha _ hi e1 w3
      have hga := map_get flds_lst ls i a ha
      have htk : (ls.take (i + 1)).flatten = (ls.take i).flatten ++ a := by
        rw [List.take_succ_eq_append_getElem hi, List.flatten_append, (List.getElem?_eq_some_iff.1 ha).2]; simp
      have hfl : (ls.take (i + 1)).flatten.length ≤ ls.flatten.length := by
        conv => rhs; rw [← List.take_append_drop (i + 1) ls, List.flatten_append, List.length_append]
        omega
      rw [htk, List.length_append] at hfl
      have hdl := dynL_len (z := [.lit (.string ⟨#[]⟩), .lit (.int .i64 0), .lit (.bool false), .sl .full []]) (cap := cap) (k := 4) (flds_fit (ls.take i).flatten) rfl (by rw [List.length_map]; omega)
      simp only [e1, w3, awH, ↓awD, awP, Nat.reduceLeDiff, Nat.reduceEqDiff, Nat.reduceAdd, Int.reduceLT, Int.reduceLE, Int.reduceEq]
      ((try refine Need.mk (by first | (first | omega | (simp only [awO] at *; omega) | (simp; omega)) | (constructor <;> (first | omega | (simp only [awO] at *; omega) | (simp; omega)))) ?_); refine Elem.recs hga (by first | (rw [flds_lst]; exact ⟨rfl, rfl⟩) | exact ⟨rfl, rfl⟩) ?_; simp only [flds_lst, w3, aw21, awH, ↓awD, awP, Nat.reduceLeDiff, Nat.reduceEqDiff, Nat.reduceAdd, Int.reduceLT, Int.reduceLE, Int.reduceEq])
      simp only [awApp, w3, awH, ↓awD, awP, Nat.reduceLeDiff, Nat.reduceEqDiff, Nat.reduceAdd, Int.reduceLT, Int.reduceLE, Int.reduceEq]
      refine Need.mk (by (repeat' apply And.intro) <;> first | decide | rfl | exact flds_fit _ | exact flds_one _ | omega | (rw [hdl]; omega) | (simp only [List.length_map]; omega)) (AppF.mk (fun hr => Need.mk (by rw [hdl]; simp only [List.length_map]; omega) ?_) (fun hn => absurd (by simp only [List.length_map]; omega) hn))
      have hin := dyn_in (z := [.lit (.string ⟨#[]⟩), .lit (.int .i64 0), .lit (.bool false), .sl .full []]) (cap := cap) (flds_fit (ls.take i).flatten) (flds_fit a) rfl (flds_strip a) (by rw [List.length_map, List.length_map]; omega)
      rw [List.length_map, ← List.map_append, ← htk, Nat.zero_add] at hin
      simp only [hin, w3, awH, ↓awD, awP, Nat.reduceLeDiff, Nat.reduceEqDiff, Nat.reduceAdd, Int.reduceLT, Int.reduceLE, Int.reduceEq]
      refine ⟨(i + 1, ()), hi, by simp only; omega, weak_of rfl ?_⟩
      simp [look, htk]
    · rintro _ _ e1
      simp only [e1, awH, ↓awD, awP, Nat.reduceLeDiff, Nat.reduceEqDiff, Nat.reduceAdd, Int.reduceLT, Int.reduceLE, Int.reduceEq]
      refine Fin.here (by simp) (hcl.app (unders_dyn rfl ?_)) (by simp [AV.under]) (.inr ⟨[], cap, ?_, ?_, ?_, hcl⟩)
      · refine unders_of fun x hx => ?_
        simp only [flatC, List.mem_flatMap, List.mem_map] at hx
        obtain ⟨_, ⟨c, _, rfl⟩, hx⟩ := hx
        exact flds_und c x hx
      · simp [take_len]
      · simp [take_len]
      · try simp only [List.length_map]
        omega
theorem strs_fit (l : List ByteArray) : Fit 1 (l.map str) := by
  intro e he; obtain ⟨c, _, rfl⟩ := List.mem_map.1 he; exact ⟨rfl, rfl⟩
theorem strs_one (l : List ByteArray) : allOne (l.map str) := by
  intro e he; obtain ⟨c, _, rfl⟩ := List.mem_map.1 he; rfl
theorem strs_strip : ∀ (l : List ByteArray), (flatC (l.map str)).map AV.strip = flatC (l.map str)
  | [] => rfl
  | a :: l => by
    have := strs_strip l
    simp only [flatC] at this ⊢
    simp only [List.map_cons, List.flatMap_cons, List.map_append, this]
    rfl
theorem strs_und {n : Nat} (c : ByteArray) : ∀ x, x ∈ (str c).cells → AV.under n x = true := by
  intro x hx
  have : unders n (str c).cells = true := rfl
  obtain ⟨i, hi⟩ := List.getElem?_of_mem hx
  exact unders_get this hi
theorem strs_grow (n : Int) (h : List AObj) (h0 : 0 ≤ n) (hn : n ≤ 2 ^ 40) : Ev E0 92 [.sl .full [], i64 n] h (fun r h' => (n = 0 ∧ r = .ret (.sl .full []) ∧ h' = h) ∨
    (0 < n ∧ ∃ cap : Nat, n ≤ cap ∧ r = .ret (.vw h.length 0 0 cap) ∧ h' = h ++ [AObj.cells (dynL [.lit (.string ⟨#[]⟩)] [] cap)])) := by
  refine ev_of (fn := Tryz.f92) (hs := []) Tryz.func92 c92 (by simp) fun hcl => ?_
  have d0 : decide (n < 0) = false := by rw [decide_eq_false_iff_not]; omega
  have w0 : IntKind.i64.wrap ((0 : Int) - 0) = 0 := rfl
  have w1 : IntKind.i64.wrap (n - 0) = n := by rw [wrap_i64] <;> omega
  simp only [ac92, d0, w0, w1, List.length_nil, Int.cast_ofNat_Int, awH, ↓awD, awP, Nat.reduceLeDiff, Nat.reduceEqDiff, Nat.reduceAdd, Int.reduceLT, Int.reduceLE, Int.reduceEq]
  refine BrF.mk (fun hb => ?_) (fun hb => ?_) <;> (try rw [hb]) <;> simp only [awH, ↓awD, awP, Nat.reduceLeDiff, Nat.reduceEqDiff, Nat.reduceAdd, Int.reduceLT, Int.reduceLE, Int.reduceEq]
  · rw [decide_eq_true_eq] at hb
    refine Need.mk (by simp) ?_
    simp only [List.take_nil, List.drop_nil, awH, ↓awD, awP, Nat.reduceLeDiff, Nat.reduceEqDiff, Nat.reduceAdd, Int.reduceLT, Int.reduceLE, Int.reduceEq]
    refine Need.mk (by (repeat' apply And.intro) <;> first | decide | rfl | omega) (ZerF.mk (fun h => absurd h (by omega)) (fun _ cap' hc => ?_))
    simp only [dyn_zero _ _ _ hc, offAt0, awH, ↓awD, awP, Nat.reduceLeDiff, Nat.reduceEqDiff, Nat.reduceAdd, Int.reduceLT, Int.reduceLE, Int.reduceEq]
    refine Need.mk (by omega) ?_
    simp only [offAt0, Int.toNat_zero, Nat.sub_zero, awH, ↓awD, awP, Nat.reduceLeDiff, Nat.reduceEqDiff, Nat.reduceAdd, Int.reduceLT, Int.reduceLE, Int.reduceEq]
    exact Fin.here (by simp) (hcl.app (unders_dyn rfl rfl)) (by simp [AV.under]) (.inr ⟨hb, cap', by omega, rfl, rfl⟩)
  · rw [decide_eq_false_iff_not] at hb
    exact Fin.same0 hcl rfl (.inl ⟨by omega, rfl, rfl⟩)
def strs_lst (l : List ByteArray) : AV := .sl .unk (l.map str)
theorem strs_cat (ls : List (List ByteArray)) (h : List AObj) (hl : ls.length ≤ 2 ^ 30) (hs : ls.flatten.length ≤ 2 ^ 40) : EvR E0 79 [.sl .full (ls.map strs_lst)] h (.sl .unk (ls.flatten.map str)) := by
  refine Ev.frozen [.lit (.string ⟨#[]⟩)] 1 (strs_fit _) (strs_one _) ?_ rfl ?_
  · refine unders_of fun x hx => ?_
    simp only [flatC, List.mem_flatMap, List.mem_map] at hx
    obtain ⟨_, ⟨c, _, rfl⟩, hx⟩ := hx
    exact strs_und c x hx
  refine ev_of (fn := Tryz.f79) (hs := [(13, 2)]) Tryz.func79 c79 (by simp) fun hcl => ?_
  simp only [ac79, awH, ↓awD, awP, Nat.reduceLeDiff, Nat.reduceEqDiff, Nat.reduceAdd, Int.reduceLT, Int.reduceLE, Int.reduceEq]
  refine LoopF.cut 0 (fun σ => σ.heap = h ∧ look σ.tmps 0 = .sl .full (ls.map strs_lst) ∧ look σ.tmps 3 = i64 ls.flatten.length) ?_ ?_
  · intro Q' hx _ _
    refine LoopF.list ls (by omega) (γ := Nat) (fun i g => ⟨[(0, .sl .full (ls.map strs_lst)), (3, i64 g), (9, .sl .full (ls.map strs_lst)), (10, i64 ls.length), (11, i64 i)], h⟩)
      (fun i g => g + (ls.drop i).flatten.length = ls.flatten.length) 0 (by simp) (weak_of rfl (by simp [look])) ?_ ?_
    · rintro i a g ha hv hi e1 w3
      rw [drop_get ha, List.flatten_cons, List.length_append] at hv
      have hga := map_get strs_lst ls i a ha
      have w1 : IntKind.i64.wrap ((g : Int) + (a.length : Int)) = ((g + a.length : Nat) : Int) := by rw [wrap_i64] <;> omega
      have d1 : decide (((g + a.length : Nat) : Int) < 0) = false := by rw [decide_eq_false_iff_not]; omega
      simp only [e1, w3, awH, ↓awD, awP, Nat.reduceLeDiff, Nat.reduceEqDiff, Nat.reduceAdd, Int.reduceLT, Int.reduceLE, Int.reduceEq]
      ((try refine Need.mk (by first | (first | omega | (simp only [awO] at *; omega) | (simp; omega)) | (constructor <;> (first | omega | (simp only [awO] at *; omega) | (simp; omega)))) ?_); refine Elem.recs hga (by first | (rw [strs_lst]; exact ⟨rfl, rfl⟩) | exact ⟨rfl, rfl⟩) ?_; simp only [strs_lst, w1, d1, w3, aw21, awH, ↓awD, awP, Nat.reduceLeDiff, Nat.reduceEqDiff, Nat.reduceAdd, Int.reduceLT, Int.reduceLE, Int.reduceEq])
      have hv2 : g + a.length + (ls.drop (i + 1)).flatten.length = ls.flatten.length := by omega
      exact ⟨(i + 1, (g + a.length)), ⟨hi, hv2⟩, by simp only; omega, weak_of (rfl) (by simp [look])⟩
    · rintro g hv e1
      rw [drop_len] at hv
      simp only [List.flatten_nil, List.length_nil, Nat.add_zero] at hv
      subst hv
      simp only [e1, awH, ↓awD, awP, Nat.reduceLeDiff, Nat.reduceEqDiff, Nat.reduceAdd, Int.reduceLT, Int.reduceLE, Int.reduceEq]
      exact hx _ ⟨rfl, by simp [look], by simp [look]⟩
  rintro ⟨tm, hp⟩ ⟨h0, k0, k3⟩
  simp only at h0 k0 k3
  subst h0
  simp only [k0, k3, awH, ↓awD, awP, Nat.reduceLeDiff, Nat.reduceEqDiff, Nat.reduceAdd, Int.reduceLT, Int.reduceLE, Int.reduceEq]
  refine EvF.use (strs_grow _ hp (by omega) (by omega)) ?_
  rintro r h' (⟨h1, rfl, rfl⟩ | ⟨h1, cap, h2, rfl, rfl⟩)
  · have hz : ls.flatten = [] := List.length_eq_zero_iff.1 (by omega)
    simp only [k0, awH, ↓awD, awP, Nat.reduceLeDiff, Nat.reduceEqDiff, Nat.reduceAdd, Int.reduceLT, Int.reduceLE, Int.reduceEq]
    refine LoopF.list ls (by omega) (γ := Unit) (fun i _ => ⟨[(6, .sl .full []), (25, .sl .full (ls.map strs_lst)), (26, i64 ls.length), (27, i64 i)], h'⟩) (fun i _ => True) () trivial (weak_of rfl (by simp [look])) ?_ ?_
    · rintro i a _ ha _ hi e1 w3
      have hga := map_get strs_lst ls i a ha
      have hna : a = [] := List.flatten_eq_nil_iff.1 hz a (List.mem_of_getElem? ha)
      subst hna
      simp only [e1, w3, awH, ↓awD, awP, Nat.reduceLeDiff, Nat.reduceEqDiff, Nat.reduceAdd, Int.reduceLT, Int.reduceLE, Int.reduceEq]
      ((try refine Need.mk (by first | (first | omega | (simp only [awO] at *; omega) | (simp; omega)) | (constructor <;> (first | omega | (simp only [awO] at *; omega) | (simp; omega)))) ?_); refine Elem.recs hga (by first | (rw [strs_lst]; exact ⟨rfl, rfl⟩) | exact ⟨rfl, rfl⟩) ?_; simp only [strs_lst, w3, aw21, awH, ↓awD, awP, Nat.reduceLeDiff, Nat.reduceEqDiff, Nat.reduceAdd, Int.reduceLT, Int.reduceLE, Int.reduceEq])
      simp only [awApp, w3, awH, ↓awD, awP, Nat.reduceLeDiff, Nat.reduceEqDiff, Nat.reduceAdd, Int.reduceLT, Int.reduceLE, Int.reduceEq]
      refine Need.mk (by (repeat' apply And.intro) <;> first | decide | rfl | exact (fun e he => by cases he) | (simp; done)) (AppF.mk (fun _ => ⟨rfl, ?_⟩) (fun hn => absurd rfl hn))
      simp only [w3, awH, ↓awD, awP, Nat.reduceLeDiff, Nat.reduceEqDiff, Nat.reduceAdd, Int.reduceLT, Int.reduceLE, Int.reduceEq]
      exact ⟨(i + 1, ()), hi, by simp only; omega, weak_of (rfl) (by simp [look])⟩
    · rintro _ _ e1
      simp only [e1, awH, ↓awD, awP, Nat.reduceLeDiff, Nat.reduceEqDiff, Nat.reduceAdd, Int.reduceLT, Int.reduceLE, Int.reduceEq]
      exact Fin.same0 hcl rfl (.inl ⟨.full, by rw [hz]; rfl, rfl⟩)
  · simp only [k0, awH, ↓awD, awP, Nat.reduceLeDiff, Nat.reduceEqDiff, Nat.reduceAdd, Int.reduceLT, Int.reduceLE, Int.reduceEq]
    refine LoopF.list ls (by omega) (γ := Unit) (fun i _ => ⟨[(6, .vw hp.length 0 (ls.take i).flatten.length cap), (25, .sl .full (ls.map strs_lst)), (26, i64 ls.length), (27, i64 i)], hp ++ [AObj.cells (dynL [.lit (.string ⟨#[]⟩)] ((ls.take i).flatten.map str) cap)]⟩)
      (fun i _ => True) () trivial (weak_of rfl (by simp [look])) ?_ ?_
    · rintro i a _ ha _ hi e1 w3
      have hga := map_get strs_lst ls i a ha
      have htk : (ls.take (i + 1)).flatten = (ls.take i).flatten ++ a := by
        rw [List.take_succ_eq_append_getElem hi, List.flatten_append, (List.getElem?_eq_some_iff.1 ha).2]; simp
      have hfl : (ls.take (i + 1)).flatten.length ≤ ls.flatten.length := by
        conv => rhs; rw [← List.take_append_drop (i + 1) ls, List.flatten_append, List.length_append]
        omega
      rw [htk, List.length_append] at hfl
      have hdl := dynL_len (z := [.lit (.string ⟨#[]⟩)]) (cap := cap) (k := 1) (strs_fit (ls.take i).flatten) rfl (by rw [List.length_map]; omega)
      simp only [e1, w3, awH, ↓awD, awP, Nat.reduceLeDiff, Nat.reduceEqDiff, Nat.reduceAdd, Int.reduceLT, Int.reduceLE, Int.reduceEq]
      ((try refine Need.mk (by first | (first | omega | (simp only [awO] at *; omega) | (simp; omega)) | (constructor <;> (first | omega | (simp only [awO] at *; omega) | (simp; omega)))) ?_); refine Elem.recs hga (by first | (rw [strs_lst]; exact ⟨rfl, rfl⟩) | exact ⟨rfl, rfl⟩) ?_; simp only [strs_lst, w3, aw21, awH, ↓awD, awP, Nat.reduceLeDiff, Nat.reduceEqDiff, Nat.reduceAdd, Int.reduceLT, Int.reduceLE, Int.reduceEq])
      simp only [awApp, w3, awH, ↓awD, awP, Nat.reduceLeDiff, Nat.reduceEqDiff, Nat.reduceAdd, Int.reduceLT, Int.reduceLE, Int.reduceEq]
      refine Need.mk (by (repeat' apply And.intro) <;> first | decide | rfl | exact strs_fit _ | exact strs_one _ | omega | (rw [hdl]; omega) | (simp only [List.length_map]; omega)) (AppF.mk (fun hr => Need.mk (by rw [hdl]; simp only [List.length_map]; omega) ?_) (fun hn => absurd (by simp only [List.length_map]; omega) hn))
      have hin := dyn_in (z := [.lit (.string ⟨#[]⟩)]) (cap := cap) (strs_fit (ls.take i).flatten) (strs_fit a) rfl (strs_strip a) (by rw [List.length_map, List.length_map]; omega)
      rw [List.length_map, ← List.map_append, ← htk, Nat.zero_add] at hin
      simp only [hin, w3, awH, ↓awD, awP, Nat.reduceLeDiff, Nat.reduceEqDiff, Nat.reduceAdd, Int.reduceLT, Int.reduceLE, Int.reduceEq]
      refine ⟨(i + 1, ()), hi, by simp only; omega, weak_of rfl ?_⟩
      simp [look, htk]
    · rintro _ _ e1
      simp only [e1, awH, ↓awD, awP, Nat.reduceLeDiff, Nat.reduceEqDiff, Nat.reduceAdd, Int.reduceLT, Int.reduceLE, Int.reduceEq]
      refine Fin.here (by simp) (hcl.app (unders_dyn rfl ?_)) (by simp [AV.under]) (.inr ⟨[], cap, ?_, ?_, ?_, hcl⟩)
      · refine unders_of fun x hx => ?_
        simp only [flatC, List.mem_flatMap, List.mem_map] at hx
        obtain ⟨_, ⟨c, _, rfl⟩, hx⟩ := hx
        exact strs_und c x hx
      · simp [take_len]
      · simp [take_len]
      · try simp only [List.length_map]
        omega
end Go.Abs.Fr
