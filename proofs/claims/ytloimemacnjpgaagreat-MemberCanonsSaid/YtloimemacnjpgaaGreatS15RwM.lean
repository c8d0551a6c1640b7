/- The rows' common part: tables and values, as they are read. -/
import Derived.Test.YtloimemacnjpgaaGreatS15RdV
import Derived.Test.YtloimemacnjpgaaGreatS15Mb3
import Derived.Test.YtloimemacnjpgaaGreatRows
import Derived.SizedLaws
import Derived.ChangeSame
import Derived.ChangeVars
import Derived.ChangeSlices
import Derived.ChangeMaps5
import Derived.Carry
import Derived.JoinedOf
import Derived.JoinedAt
import Derived.RowKit
import Derived.RowKit3
import Derived.RowKitTokens
import Derived.LaidLaws
import Derived.ProofKit
set_option linter.all false
namespace Go.Proofs.YtloimemacnjpgaaGreat
open Go.ChangeShapes Go.WideShapes Go.ChangeAt Go.RowKit

theorem Tryz.own : ownKnob Tryz.prog.godebug = none := by kernel_rfl
theorem Tryz.laidOut : laidOutB Tryz.prog = true := by kernel_rfl
theorem glOk_none {W : World} : Go.Abs.GlOk Go.Abs.Fr.E0 W (Go.Abs.Gh.all W) := fun i cs hi => by cases hi
theorem val_struct : ∃ fs, Tryz.prog.underlying 26 = some (.struct fs) := by
  have h := Go.Abs.Fr.sVal
  unfold Go.Abs.onesIs at h
  split at h
  · rename_i fs hfs; exact ⟨_, hfs⟩
  · cases h
set_option maxRecDepth 100000 in
/-- A value, as it is read, stands for one. -/
theorem val_args {H : Type} {enc : TypeId × Value → H} {W : World} {base : Nat} {v : Value} {d : DataW H} {ps : List MemPlace} (hval : Value.okWide Tryz.prog W .any base 26 v) (h : DataW.Trod enc Tryz.prog W 0 (fun _ => true) true 26 v d ps)
    (hw : (d.weights Tryz.prog 26).all (· ≤ reachBytes) = true) :
    ∃ l : Go.Abs.Fr.Val, Go.Abs.Fr.mxV l ≤ 2 ^ 47 ∧ Go.Abs.Rep W (Go.Abs.Gh.all W) 0 (Go.Abs.Fr.valv l) v := by
  obtain ⟨fuel, hf⟩ := h
  obtain ⟨a, ha, v', hv', hr⟩ := Go.Abs.Fr.rd_val fuel _ _ hf hw
  refine ⟨a, Nat.le_trans ha (by unfold reachBytes; decide), ?_⟩
  obtain ⟨fs, hfs⟩ := val_struct
  obtain ⟨cs, rfl, -⟩ := okWide_struct hfs hval
  have hr' := hr
  rw [Go.Abs.Fr.valv_eq] at hr'; simp only [Go.Abs.Rep] at hr'
  obtain ⟨vs, rfl, -⟩ := hr'
  have he : vs = cs := Array.toList_inj.1 hv'
  rw [← he]; exact hr
set_option maxRecDepth 100000 in
/-- A table, as it is read, stands for one. -/
theorem tab_args {H : Type} {enc : TypeId × Value → H} {W : World} {base : Nat} {v : Value} {d : DataW H} {ps : List MemPlace} (hval : Value.okWide Tryz.prog W .any base 22 v) (h : DataW.Trod enc Tryz.prog W 0 (fun _ => true) true 22 v d ps)
    (hw : (d.weights Tryz.prog 22).all (· ≤ reachBytes) = true) :
    ∃ l : List Go.Abs.Fr.Dsc, Go.Abs.Fr.Wide l ∧ Go.Abs.Rep W (Go.Abs.Gh.all W) 0 (Go.Abs.Fr.dscl l) v := by
  obtain ⟨fuel, hf⟩ := h
  obtain ⟨a, ha, v', hv', hr⟩ := Go.Abs.Fr.rd_dscs fuel _ _ hf hw
  have hrb : reachBytes ≤ 2 ^ 47 := by unfold reachBytes; decide
  refine ⟨a, ⟨Nat.le_trans ha.1 hrb, fun r hr => ?_⟩, ?_⟩
  · obtain ⟨h1, h2, h3, h4, h5, h6, h7, h8⟩ := ha.2 r hr
    exact ⟨by omega, by omega, by omega, by omega, by omega, by omega, by omega, fun f hf => ⟨Nat.le_trans (h8 f hf).1 hrb, Nat.le_trans (h8 f hf).2 hrb⟩⟩
  · obtain ⟨a0, len, cap, rfl⟩ := okWide_slice Go.Abs.Fr.uDscs hval
    have hr' := hr
    simp only [Go.Abs.Rep] at hr'
    obtain ⟨base, len', cap', rfl, -⟩ := hr'
    have he : Value.slice base len' cap' = .slice a0 len cap := by simpa [Value.cells] using hv'
    rw [← he]; exact hr
theorem argsOk3 {W : World} {g : Go.Abs.Gh} {a b c : Go.Abs.AV} {v u x : Value} (h : Go.Abs.Rep W g 0 a v) (hs : ∀ s, Go.Abs.SpareOk W g 0 s a v) (h' : Go.Abs.Rep W g 0 b u) (hs' : ∀ s, Go.Abs.SpareOk W g 0 s b u) (h'' : Go.Abs.Rep W g 0 c x) (hs'' : ∀ s, Go.Abs.SpareOk W g 0 s c x) : Go.Abs.argsOk W g 0 [a, b, c] #[v, u, x] := by
  refine ⟨rfl, fun i av hi => ?_⟩
  match i, hi with
  | 0, hi => cases hi; exact ⟨_, rfl, h, hs _⟩
  | 1, hi => cases hi; exact ⟨_, rfl, h', hs' _⟩
  | 2, hi => cases hi; exact ⟨_, rfl, h'', hs'' _⟩
end Go.Proofs.YtloimemacnjpgaaGreat

namespace Go.Abs.Fr
open Go Go.Abs Go.Proofs
set_option linter.unusedSimpArgs false
set_option maxRecDepth 100000

def Dist (fs : List Fld) : Prop := (fs.map (·.name)).Nodup
theorem Dist.cons {f : Fld} {fs : List Fld} (h : Dist (f :: fs)) : (∀ g, g ∈ fs → g.name ≠ f.name) ∧ Dist fs := by
  simp only [Dist, List.map_cons, List.nodup_cons] at h
  exact ⟨fun g hg he => h.1 (List.mem_map.2 ⟨g, hg, he⟩), h.2⟩

theorem tab_rows {d : List Dsc} (h : rightT d = true) : ∀ r, r ∈ d → rowT r d.length = true := by
  simp only [rightT, tabT, Bool.and_eq_true, Bool.not_eq_true', List.any_eq_false, Bool.not_eq_false] at h
  exact fun r hr => by simpa using h.1.2.2 r hr
theorem tab_dist {d : List Dsc} (h : rightT d = true) : ∀ r, r ∈ d → Dist r.fields := fun r hr => by
  obtain ⟨_, h2, _⟩ := row_facts (tab_rows h r hr)
  simp only [namesT, Bool.and_eq_true] at h2
  exact ((onceW_iff _ _).1 h2.2.1).2

def sel (f : Fld) : Option Val → Option Val
  | some y => some y
  | none => f.dfl.head?
def nx (C : Int → Val → Val) : List Fld → List (Option Val) → List (Option Val)
  | f :: fs, o :: c => (sel f o).map (C f.t) :: nx C fs c
  | _, _ => []
theorem bare8 {x : Val} (h : x.kind = 8) : bareV x = (decide (x.n = 0) && decide (x.s = ⟨#[]⟩)) := by simp [bareV, parted, h]
theorem bare9 {x : Val} (h : x.kind = 9) : bareV x = (decide (x.n = 0) && decide (x.s = ⟨#[]⟩) && decide (x.names.length = 0)) := by simp [bareV, parted, h]
theorem bare10 {x : Val} (h : x.kind = 10) : bareV x = (decide (x.n = 0) && decide (x.names.length = 0)) := by simp [bareV, parted, h]
theorem once_no {d : List Dsc} {v : Val} (h : checkT d v ≠ 0) : canonT d v = val0 := by simp only [canonT, h, decide_false, cond_false]

theorem mxB_le {M : Nat} : ∀ {l : List ByteArray}, (∀ s, s ∈ l → s.size ≤ M) → l.length ≤ M → mxB l ≤ M
  | [], _, _ => Nat.zero_le _
  | s :: l, h, hl => by
    simp only [List.length_cons] at hl
    have := mxB_le (l := l) (fun x hx => h x (List.mem_cons_of_mem _ hx)) (by omega)
    have := h s List.mem_cons_self
    simp only [mxB]; omega
theorem mxVs_le {M : Nat} : ∀ {l : List Val}, (∀ s, s ∈ l → mxV s ≤ M) → l.length ≤ M → mxVs l ≤ M
  | [], _, _ => Nat.zero_le _
  | s :: l, h, hl => by
    simp only [List.length_cons] at hl
    have := mxVs_le (l := l) (fun x hx => h x (List.mem_cons_of_mem _ hx)) (by omega)
    have := h s List.mem_cons_self
    simp only [mxVs]; omega
theorem mx_canF {C : Int → Val → Val} {r : Dsc} {v : Val} (hr : BD (2 ^ 30) r) (hv : mxV v ≤ 2 ^ 47) (hC : ∀ t y, mxV y ≤ 2 ^ 47 → mxV (C t y) ≤ 2 ^ 48) : mxV (canF C r v) ≤ 2 ^ 48 := by
  have h1 := mxV_le v
  have hl := mxVs_len v.l
  have hfl : r.fields.length ≤ 2 ^ 31 := by have := hr.2.2.2.2.1; have := hr.2.2.2.2.2.1; simp only [Dsc.fields, List.length_append]; omega
  have hm : ∀ {y : Val}, y ∈ v.l → mxV y ≤ 2 ^ 47 := fun hy => by have := mxVs_mem hy; omega
  unfold canF
  cases decide (v.kind = 8)
  · cases decide (v.kind = 10)
    · cases decide (v.kind = 9)
      · simp only [cond_false]
        rw [mxV_eq]
        show max (max v.s.size (mxB [])) (mxVs []) ≤ _
        simp only [mxB, mxVs]; omega
      · simp only [cond_false, cond_true]
        rw [mxV_eq]
        show max (max v.s.size (mxB [])) (mxVs (v.l.map (C r.elem))) ≤ _
        have : mxVs (v.l.map (C r.elem)) ≤ 2 ^ 48 := mxVs_le (fun s hs => by obtain ⟨y, hy, rfl⟩ := List.mem_map.1 hs; exact hC _ _ (hm hy)) (by rw [List.length_map]; omega)
        simp only [mxB]; omega
    · simp only [cond_false, cond_true]
      rw [mxV_eq]
      show max (max v.s.size (mxB [])) (mxVs (canC C v r.fields)) ≤ _
      have : mxVs (canC C v r.fields) ≤ 2 ^ 48 := by
        unfold canC
        split
        · rename_i f x hf hx
          refine mxVs_le (fun s hs => ?_) (by simp)
          rw [List.mem_singleton.1 hs]
          exact hC _ _ (hm (List.mem_of_mem_head? hx))
        · simp [mxVs]
      simp only [mxB]; omega
  · simp only [cond_true]
    rw [mxV_eq]
    show max (max v.s.size (mxB (canN v r.fields))) (mxVs (canL C v r.fields)) ≤ _
    have h2 : mxB (canN v r.fields) ≤ 2 ^ 48 := by
      refine mxB_le (fun s hs => ?_) (Nat.le_trans (canN_len v r.fields) (by omega))
      simp only [canN, List.mem_filterMap, Option.map_eq_some_iff] at hs
      obtain ⟨f, hf, y, _, rfl⟩ := hs
      have := (hr.fields f hf).1
      omega
    have h3 : mxVs (canL C v r.fields) ≤ 2 ^ 48 := by
      refine mxVs_le (fun s hs => ?_) (Nat.le_trans (canL_len C v r.fields) (by omega))
      simp only [canL, List.mem_filterMap, Option.map_eq_some_iff] at hs
      obtain ⟨f, hf, y, hy, rfl⟩ := hs
      refine hC _ _ ?_
      unfold pick at hy
      split at hy
      · exact hm (List.mem_of_getElem? hy)
      · have := mxVs_mem (List.mem_of_mem_head? hy)
        have := (hr.fields f hf).2
        omega
    omega
theorem rowAt_bd {d : List Dsc} (hd : ∀ r, r ∈ d → BD (2 ^ 30) r) (t : Int) : BD (2 ^ 30) (rowAt d t) := by
  unfold rowAt
  rw [List.getD_eq_getElem?_getD]
  cases h : d[t.toNat]? with
  | none => exact ⟨by decide, by decide, by decide, by decide, by decide, by decide, by decide, (fun f hf => by cases hf), (fun f hf => by cases hf)⟩
  | some r => exact hd r (List.mem_of_getElem? h)
theorem mx_can {d : List Dsc} (hd : ∀ r, r ∈ d → BD (2 ^ 30) r) : ∀ (k : Nat) (t : Int) (v : Val), mxV v ≤ 2 ^ 47 → mxV (canV d k t v) ≤ 2 ^ 48
  | 0, t, v, hv => mx_canF (rowAt_bd hd t) hv fun t y hy => by omega
  | k + 1, t, v, hv => mx_canF (rowAt_bd hd t) hv fun t y hy => mx_can hd k t y hy

def ac8 : ACode := (.seq (.region [oq 0 (.move (cb false))]) (.seq (.region [oq 5 (.build [zi, zi, zs, zn, zn] [(0, (1, (ci 1))), (1, (1, (ci 1)))]), oq 6 (.buildSlice false 5 [zi, zi, zs, zn, zn] 1 [(0, (tq 5))]), oq 7 (.build [zs, zi, zb, zn] [(0, (1, (.const (.string (⟨#[97]⟩ : ByteArray))))), (1, (1, (ci 1))), (3, (1, (tq 6)))]), oq 8 (.build [zs, zi, zb, zn] [(0, (1, (.const (.string (⟨#[98]⟩ : ByteArray))))), (1, (1, (ci 2)))]), oq 9 (.buildSlice false 4 [zs, zi, zb, zn] 2 [(0, (tq 7)), (1, (tq 8))]), oq 10 (.build [zi, zb, zn, zi, zi, zs, zn, zn, zn, zn, zn, zi] [(0, (1, (ci 8))), (8, (1, (tq 9)))]), oq 11 (.build [zi, zb, zn, zi, zi, zs, zn, zn, zn, zn, zn, zi] [(0, (1, (ci 1)))]), oq 12 (.build [zi, zb, zn, zi, zi, zs, zn, zn, zn, zn, zn, zi] [(0, (1, (ci 4)))]), oq 13 (.buildSlice false 12 [zi, zb, zn, zi, zi, zs, zn, zn, zn, zn, zn, zi] 3 [(0, (tq 10)), (1, (tq 11)), (2, (tq 12))]), oq 1 (qm 13)]) (.seq (.region [oq 14 (.buildSlice true 1 [zs] 1 [(0, (.const (.string (⟨#[98]⟩ : ByteArray))))]), oq 15 (.build [zi, zi, zs, zn, zn] [(0, (1, (ci 4)))]), oq 16 (.buildSlice false 5 [zi, zi, zs, zn, zn] 1 [(0, (tq 15))]), oq 17 (.build [zi, zi, zs, zn, zn] [(0, (1, (ci 8))), (3, (1, (tq 14))), (4, (1, (tq 16)))]), oq 2 (.alloc [zi, zi, zs, zn, zn]), oz (.store 5 (tq 2) (tq 17))]) (.seq (.region [oq 19 (qm 1), oq 20 (qs 5 2), oq 21 (.call (.func 11) [((tq 19), false), ((tq 20), false)]), oq 18 (qm 21), oq 22 (.extract (tq 18) 0), oq 23 (.extract (tq 18) 1), oq 3 (.alloc [zi, zi, zs, zn, zn]), oz (.store 5 (tq 3) (tq 22)), oq 4 (qm 23)]) (.seq (.region [oq 24 (qf 3 2), oq 25 (ql 24), oq 26 (.indexAddr 1 (tq 25) (ci 0)), oz (.store 1 (tq 26) (.const (.string (⟨#[97]⟩ : ByteArray))))]) (.seq (.region [oq 27 (qm 4), oq 28 (.bin .eql (tq 27) (ci 0)), oq 29 (qm 28), og 30 (qf 4 3) 29 true, og 31 (ql 30) 29 true, og 32 (qn 31) 29 true, og 33 (.bin .eql (tq 32) (ci 2)) 29 true, oq 34 (.pick (tq 29) (tq 33) (cb false)), oq 35 (qm 34), og 36 (qf 3 3) 35 true, og 37 (ql 36) 35 true, og 38 (.indexAddr 1 (tq 37) (ci 0)) 35 true, og 39 (ql 38) 35 true, og 40 (.bin .eql (tq 39) (.const (.string (⟨#[97]⟩ : ByteArray)))) 35 true, oq 41 (.pick (tq 35) (tq 40) (cb false)), oq 42 (qm 41), og 43 (qf 4 3) 42 true, og 44 (ql 43) 42 true, og 45 (.indexAddr 5 (tq 44) (ci 0)) 42 true, og 46 (qf 1 45) 42 true, og 47 (ql 46) 42 true, og 48 (.bin .eql (tq 47) (ci 1)) 42 true, oq 49 (.pick (tq 42) (tq 48) (cb false)), oq 50 (qm 49), og 51 (qm 1) 50 true, og 52 (qs 5 2) 50 true, og 53 (.call (.func 15) [((tq 51), false), ((tq 52), false)]) 50 true, og 54 (.bin .eql (tq 53) (ci 4)) 50 true, oq 55 (.pick (tq 50) (tq 54) (cb false)), oq 56 (qm 55), og 57 (qm 1) 56 true, og 58 (.call (.func 17) [((tq 57), false)]) 56 true, oq 59 (.pick (tq 56) (tq 58) (cb false)), oq 60 (qm 59), og 61 (qs 5 3) 60 true, og 62 (qs 5 3) 60 true, og 63 (.call (.func 14) [((tq 61), false), ((tq 62), false)]) 60 true, oq 64 (.pick (tq 60) (tq 63) (cb false)), oq 0 (qm 64)]) .ret))))))
theorem c8 : cfn E0.P [(2,0)] Tryz.f8 = some (ac8, [(.tmp 0)], 65) := by kernel_rfl
def ac10 : ACode := (.seq (.region [oq 1 (.box (tq 0)), oq 2 (.move (cb false))]) (.seq (.region [oq 3 (qs 5 1), oq 4 (.buildSlice false 5 [zi, zi, zs, zn, zn] 1 [(0, (tq 3))]), oq 5 (.call (.func 16) [((tq 4), false), ((ci 300), false)]), oq 6 (qm 5), og 7 (qf 2 1) 6 true, og 8 (ql 7) 6 true, og 9 (.len true (tq 8)) 6 true, og 10 (.bin .leq (tq 9) (ci 10000)) 6 true, oq 11 (.pick (tq 6) (tq 10) (cb false)), oq 2 (qm 11)]) .ret))
theorem c10 : cfn E0.P [] Tryz.f10 = some (ac10, [(.tmp 2)], 12) := by kernel_rfl

def fewT1 (v : Val) : Bool := decide (0 ≤ fewVs [v] 300) && decide (v.s.size ≤ 10000)
theorem few1_ev (v : Val) (hv : mxV v ≤ 2 ^ 47) (h : List AObj) : EvR E0 10 [valv v] h (boolv (fewT1 v)) := by
  refine ev_of (fn := Tryz.f10) (hs := []) Tryz.func10 c10 (by simp) fun hcl => ?_
  have hf := fun h => fewValues_ev2 [v] (by simp only [mxVs, List.length_nil]; omega) 300 (by omega) (by omega) h
  have hf2 : ∀ h, EvR E0 16 [.sl .full [.agg [i64 v.kind, i64 v.n, str v.s, strl v.names, vall v.l]], i64 300] h (boolv (decide (0 ≤ fewVs [v] 300))) := fun h => (hf h).high (by rw [← valv_eq]; simp only [lows, AV.low, low_val]; rfl)
  have d0 : decide ((v.s.size : Int) ≤ 10000) = decide (v.s.size ≤ 10000) := by rw [decide_eq_decide]; omega
  unfold fewT1
  simp only [ac10, valv_eq, awH, ↓awD, awP, Nat.reduceLeDiff, Nat.reduceEqDiff, Nat.reduceAdd, Int.reduceLT, Int.reduceLE, Int.reduceEq]
  (refine Need.mk (by simp only [litParts, List.mem_cons, List.not_mem_nil, or_false, forall_eq_or_imp, forall_eq]; refine ⟨by decide, by decide, by decide, ?_⟩; repeat' (first | exact ⟨rfl, rfl, rfl⟩ | rfl | constructor)) ?_; simp only [d0, awH, ↓awD, awP, Nat.reduceLeDiff, Nat.reduceEqDiff, Nat.reduceAdd, Int.reduceLT, Int.reduceLE, Int.reduceEq])
  repeat' (first | ((first | refine EvF.ret (hf2 _) ?_ | refine EvRF.ret (hf2 _) ?_); simp only [d0, aw21, awH, ↓awD, awP, Nat.reduceLeDiff, Nat.reduceEqDiff, Nat.reduceAdd, Int.reduceLT, Int.reduceLE, Int.reduceEq]) | (refine BrF.mk (fun hb => ?_) (fun hb => ?_) <;> (try rw [hb]) <;> simp only [d0, aw21, awH, ↓awD, awP, Nat.reduceLeDiff, Nat.reduceEqDiff, Nat.reduceAdd, Int.reduceLT, Int.reduceLE, Int.reduceEq]))
  all_goals (refine Fin.end hcl rfl (by first | rfl | exact (List.append_nil _).symm | (simp only [List.append_assoc]; rfl)) ⟨?_, rfl⟩; clear hf hf2; simp [*])

def dA : List Dsc := [⟨8, false, [], 0, 0, ⟨#[]⟩, [], [], [⟨⟨#[97]⟩, 1, false, [.mk 1 1 ⟨#[]⟩ [] [] (by unfold InR; decide)], by unfold InR; decide⟩, ⟨⟨#[98]⟩, 2, false, [], by unfold InR; decide⟩], [], [], 0, by unfold InR; decide, by unfold InR; decide, by unfold InR; decide, by unfold InR; decide, by intro x h; cases h⟩,
  ⟨1, false, [], 0, 0, ⟨#[]⟩, [], [], [], [], [], 0, by unfold InR; decide, by unfold InR; decide, by unfold InR; decide, by unfold InR; decide, by intro x h; cases h⟩,
  ⟨4, false, [], 0, 0, ⟨#[]⟩, [], [], [], [], [], 0, by unfold InR; decide, by unfold InR; decide, by unfold InR; decide, by unfold InR; decide, by intro x h; cases h⟩]
def vA (s : ByteArray) : Val := .mk 8 0 ⟨#[]⟩ [s] [.mk 4 0 ⟨#[]⟩ [] [] (by unfold InR; decide)] (by unfold InR; decide)
def cA : Val := .mk 8 0 ⟨#[]⟩ [⟨#[97]⟩, ⟨#[98]⟩] [.mk 1 1 ⟨#[]⟩ [] [] (by unfold InR; decide), .mk 4 0 ⟨#[]⟩ [] [] (by unfold InR; decide)] (by unfold InR; decide)
theorem rightA : rightT dA = true := by decide
theorem checkA : checkT dA (vA ⟨#[98]⟩) = 0 := by decide
theorem checkB : checkT dA (vA ⟨#[97]⟩) = 4 := by decide
theorem canonA : canonT dA (vA ⟨#[98]⟩) = cA := by
  unfold canonT
  rw [checkA]
  rfl
theorem wideA : ∀ r, r ∈ dA → BD (2 ^ 30) r := by
  intro r hr
  simp only [dA, List.mem_cons, List.not_mem_nil, or_false] at hr
  rcases hr with rfl | rfl | rfl
  · refine ⟨by decide, by decide, by decide, by decide, by decide, by decide, by decide, fun f hf => ?_, fun f hf => by cases hf⟩
    simp only [List.mem_cons, List.not_mem_nil, or_false] at hf
    rcases hf with rfl | rfl <;> exact ⟨by decide, by decide⟩
  · exact ⟨by decide, by decide, by decide, by decide, by decide, by decide, by decide, (fun f hf => by cases hf), (fun f hf => by cases hf)⟩
  · exact ⟨by decide, by decide, by decide, by decide, by decide, by decide, by decide, (fun f hf => by cases hf), (fun f hf => by cases hf)⟩
theorem awake_ev (h : List AObj) : EvR E0 8 [] h (boolv true) := by
  have c1 := fun h => canon_ev dA wideA (by decide) (vA ⟨#[98]⟩) (by decide) (by decide) h
  have c2 := fun h => check_ev dA wideA (by decide) (vA ⟨#[97]⟩) (by decide) h
  have c3 := fun h => mright_ev dA wideA (by decide) h
  have c4 := fun h => same_ev 10 cA cA (by decide) (by decide) (by decide) h
  rw [canonA, checkA] at c1
  rw [checkB] at c2
  rw [rightA] at c3
  rw [show eqV cA cA = true from eqV_iff.2 rfl] at c4
  refine Ev.drop rfl ?_
  refine ev_of (fn := Tryz.f8) (hs := [(2,0)]) Tryz.func8 c8 (by simp) fun hcl => ?_
  simp only [ac8, awH, ↓awD, awP, Nat.reduceLeDiff, Nat.reduceEqDiff, Nat.reduceAdd, Int.reduceLT, Int.reduceLE, Int.reduceEq]
  repeat' (first | (refine Need.mk (by simp only [litParts, List.mem_cons, List.not_mem_nil, or_false, forall_eq_or_imp, forall_eq]; refine ⟨by decide, by decide, by decide, ?_⟩; repeat' (first | exact ⟨rfl, rfl, rfl⟩ | rfl | constructor)) ?_; simp only [aw21, awH, ↓awD, awP, Nat.reduceLeDiff, Nat.reduceEqDiff, Nat.reduceAdd, Int.reduceLT, Int.reduceLE, Int.reduceEq]))
  have hfc : flatC [AV.lit (.string ⟨#[98]⟩)] = [AV.lit (.string ⟨#[98]⟩)] := rfl
  have l1 : ∀ (x : AObj), (h ++ [x]).length = h.length + 1 := fun x => by simp
  have l2 : ∀ (x y : AObj), (h ++ [x] ++ [y]).length = h.length + 2 := fun x y => by simp
  have g0 : ∀ (x y z : AObj), (h ++ [x] ++ [y] ++ [z])[h.length]? = some x := fun x y z => by simp
  have g1 : ∀ (x y z : AObj), (h ++ [x] ++ [y] ++ [z])[h.length + 1]? = some y := fun x y z => by simp
  have g2 : ∀ (x y z : AObj), (h ++ [x] ++ [y] ++ [z])[h.length + 2]? = some z := fun x y z => by simp
  have s0 : ∀ (x y z w : AObj), (h ++ [x] ++ [y] ++ [z]).set h.length w = h ++ [w] ++ [y] ++ [z] := fun x y z w => by simp
  have s2 : ∀ (x y z w : AObj), (h ++ [x] ++ [y] ++ [z]).set (h.length + 2) w = h ++ [x] ++ [y] ++ [w] := fun x y z w => by
    rw [List.set_append_right _ _ (by simp), l2]; simp
  simp only [List.nil_append, List.append_nil, hfc, l1, l2, List.map_cons, List.map_nil, AV.strip]
  have hid0 : ∀ (s : ByteArray) (x : AObj), (h ++ [AObj.cells [.lit (.string s)]] ++ [x])[h.length]? = some (.cells [.lit (.string s)]) := fun s x => geta h _ x
  refine EvF.ret (EvR.lend1 (id := h.length) (s := ⟨#[98]⟩) (R := .tup [valv cA, i64 0]) (args' := [_, .agg [_, _, _, .sl .unk ([(⟨#[98]⟩ : ByteArray)].map fun s => .lit (.string s)), _]]) Tryz.func11 (by rfl) rfl ?hev (hid0 _ _)
    (.cons (.same ?a1 ?a2) (.cons (.agg (.cons (.same ?b1 ?b2) (.cons (.same ?c1 ?c2) (.cons (.same ?d1 ?d2) (.cons (.txt (l := [⟨#[98]⟩]) (hid0 _ _)) (.cons (.same ?e1 ?e2) .nil)))))) .nil)) ?big) ?_
  case hev => exact (c1 []).high rfl
  case big => rfl
  case a1 => rfl
  case a2 => exact ⟨(fun _ _ h => by cases h), (fun _ h => by cases h), (fun _ _ h => by cases h)⟩
  case b1 => rfl
  case b2 => exact NoOwn.lit _
  case c1 => rfl
  case c2 => exact NoOwn.lit _
  case d1 => rfl
  case d2 => exact NoOwn.lit _
  case e1 => rfl
  case e2 => exact ⟨(fun _ _ h => by cases h), (fun _ h => by cases h), (fun _ _ h => by cases h)⟩
  simp only [cA, valv, valsv, l1, l2, g0, g1, g2, s0, s2, awH, ↓awD, awP, Nat.reduceLeDiff, Nat.reduceEqDiff, Nat.reduceAdd, Int.reduceLT, Int.reduceLE, Int.reduceEq]
  refine Need.mk (by decide) ?_
  have hset : ∀ (x y z : AObj), (h ++ [x] ++ [y] ++ [z]).set h.length (AObj.cells [.lit (.string ⟨#[97]⟩)]) = h ++ [AObj.cells [.lit (.string ⟨#[97]⟩)]] ++ [y] ++ [z] := fun x y z => by simp
  simp only [l1, l2, g0, g1, g2, s0, s2, Int.toNat_zero, Nat.zero_mul, awH, ↓awD, awP, Nat.reduceLeDiff, Nat.reduceEqDiff, Nat.reduceAdd, Int.reduceLT, Int.reduceLE, Int.reduceEq]
  refine Elem.recs rfl ⟨rfl, rfl⟩ ?_
  simp only [l1, l2, g0, g1, g2, s0, s2, awH, ↓awD, awP, Nat.reduceLeDiff, Nat.reduceEqDiff, Nat.reduceAdd, Int.reduceLT, Int.reduceLE, Int.reduceEq]
  refine Elem.recs rfl ⟨rfl, rfl⟩ ?_
  simp only [l1, l2, g0, g1, g2, s0, s2, awH, ↓awD, awP, Nat.reduceLeDiff, Nat.reduceEqDiff, Nat.reduceAdd, Int.reduceLT, Int.reduceLE, Int.reduceEq]
  refine EvF.ret (EvR.lend1 (id := h.length) (s := ⟨#[97]⟩) (R := i64 4) (args' := [_, .agg [_, _, _, .sl .unk ([(⟨#[97]⟩ : ByteArray)].map fun s => .lit (.string s)), _]]) Tryz.func15 (by rfl) rfl ?hev (g0 _ _ _)
    (.cons (.same ?a1 ?a2) (.cons (.agg (.cons (.same ?b1 ?b2) (.cons (.same ?c1 ?c2) (.cons (.same ?d1 ?d2) (.cons (.txt (l := [⟨#[97]⟩]) (g0 _ _ _)) (.cons (.same ?e1 ?e2) .nil)))))) .nil)) ?big) ?_
  case hev => exact (c2 []).high rfl
  case big => rfl
  case a1 => rfl
  case a2 => exact ⟨(fun _ _ h => by cases h), (fun _ h => by cases h), (fun _ _ h => by cases h)⟩
  case b1 => rfl
  case b2 => exact NoOwn.lit _
  case c1 => rfl
  case c2 => exact NoOwn.lit _
  case d1 => rfl
  case d2 => exact NoOwn.lit _
  case e1 => rfl
  case e2 => exact ⟨(fun _ _ h => by cases h), (fun _ h => by cases h), (fun _ _ h => by cases h)⟩
  simp only [l1, l2, g0, g1, g2, s0, s2, awH, ↓awD, awP, Nat.reduceLeDiff, Nat.reduceEqDiff, Nat.reduceAdd, Int.reduceLT, Int.reduceLE, Int.reduceEq]
  refine EvF.ret ((c3 _).high rfl) ?_
  simp only [l1, l2, g0, g1, g2, s0, s2, awH, ↓awD, awP, Nat.reduceLeDiff, Nat.reduceEqDiff, Nat.reduceAdd, Int.reduceLT, Int.reduceLE, Int.reduceEq]
  simp only [cA, valv, valsv] at c4
  refine EvF.ret (c4 _) ?_
  simp only [l1, l2, g0, g1, g2, s0, s2, awH, ↓awD, awP, Nat.reduceLeDiff, Nat.reduceEqDiff, Nat.reduceAdd, Int.reduceLT, Int.reduceLE, Int.reduceEq]
  exact Fin.all (by simp) ⟨rfl, [_, _, _], by simp; exact ⟨rfl, rfl, rfl⟩⟩

theorem hpl (h : List AObj) :
    ((∀ a : AObj, (h ++ [a]).length = h.length + 1) ∧ (∀ a b : AObj, (h ++ [a] ++ [b]).length = h.length + 2) ∧ (∀ a b c : AObj, (h ++ [a] ++ [b] ++ [c]).length = h.length + 3) ∧ (∀ a b c d : AObj, (h ++ [a] ++ [b] ++ [c] ++ [d]).length = h.length + 4)) ∧
    ((∀ a : AObj, (h ++ [a])[h.length]? = some a) ∧ (∀ a b : AObj, (h ++ [a] ++ [b])[h.length]? = some a) ∧ (∀ a b c : AObj, (h ++ [a] ++ [b] ++ [c])[h.length]? = some a) ∧ (∀ a b c d : AObj, (h ++ [a] ++ [b] ++ [c] ++ [d])[h.length]? = some a)) ∧
    ((∀ a b : AObj, (h ++ [a] ++ [b])[h.length + 1]? = some b) ∧ (∀ a b c : AObj, (h ++ [a] ++ [b] ++ [c])[h.length + 1]? = some b) ∧ (∀ a b c d : AObj, (h ++ [a] ++ [b] ++ [c] ++ [d])[h.length + 1]? = some b)) ∧
    ((∀ a b c : AObj, (h ++ [a] ++ [b] ++ [c])[h.length + 2]? = some c) ∧ (∀ a b c d : AObj, (h ++ [a] ++ [b] ++ [c] ++ [d])[h.length + 2]? = some c) ∧ (∀ a b c d : AObj, (h ++ [a] ++ [b] ++ [c] ++ [d])[h.length + 3]? = some d)) ∧
    ((∀ a x : AObj, (h ++ [a]).set h.length x = h ++ [x]) ∧ (∀ a b x : AObj, (h ++ [a] ++ [b]).set (h.length + 1) x = h ++ [a] ++ [x]) ∧ (∀ a b c x : AObj, (h ++ [a] ++ [b] ++ [c]).set (h.length + 2) x = h ++ [a] ++ [b] ++ [x]) ∧ (∀ a b c d x : AObj, (h ++ [a] ++ [b] ++ [c] ++ [d]).set (h.length + 3) x = h ++ [a] ++ [b] ++ [c] ++ [x])) := by
  have s1 : ∀ (l : List AObj) (a x : AObj) (n : Nat), l.length = n → (l ++ [a]).set n x = l ++ [x] := fun l a x n hn => by subst hn; simp
  refine ⟨⟨?_, ?_, ?_, ?_⟩, ⟨?_, ?_, ?_, ?_⟩, ⟨?_, ?_, ?_⟩, ⟨?_, ?_, ?_⟩, ⟨?_, ?_, ?_, ?_⟩⟩ <;> intros <;> first | (simp; done) | (apply s1; simp; done) | skip
theorem low_map {α : Type} (f : α → AV) (hf : ∀ a, (f a).low = f a) (l : List α) : lows (l.map f) = l.map f := by
  rw [lows_map, List.map_map]; exact List.map_congr_left fun a _ => hf a

def ac5 : ACode := (.seq (.region [oq 4 (.box (tq 1)), oq 6 (.move (cb false))]) (.seq (.region [oq 11 (.call (.func 8) []), oq 7 (qm 11)]) (.seq (.seq (.region [oq 12 (qm 0), oq 13 (.call (.func 9) [((tq 12), false)]), oq 14 (.un .not (tq 13)), oq 15 (qm 14), og 16 (qs 5 4) 15 false, og 17 (.call (.func 10) [((tq 16), false)]) 15 false, og 18 (.un .not (tq 17)) 15 false, oq 19 (.pick (tq 15) (cb true) (tq 18)), oq 20 (qm 19), og 21 (qm 0) 20 false, og 22 (qs 5 4) 20 false, og 23 (.call (.func 15) [((tq 21), false), ((tq 22), false)]) 20 false, og 24 (.bin .neq (tq 23) (ci 0)) 20 false, oq 25 (.pick (tq 20) (cb true) (tq 24))]) (.cond (tq 25) (.seq (.region [oq 26 (qm 7), oq 6 (qm 26)]) .ret) .skip)) (.seq (.region [oq 27 (qs 5 4), oq 8 (.alloc [zi, zi, zs, zn, zn]), oz (.store 5 (tq 8) (tq 27))]) (.seq (.region [oq 28 (qm 2), oq 29 (qf 0 8), oz (.store 1 (tq 29) (tq 28))]) (.seq (.region [oq 30 (qs 5 4), oq 9 (.alloc [zi, zi, zs, zn, zn]), oz (.store 5 (tq 9) (tq 30))]) (.seq (.region [oq 31 (.buildSlice false 1 [zs] 0 []), oq 32 (qf 3 4), oq 33 (ql 32), oq 34 (.append 1 16 [zs] (tq 31) (tq 33)), oq 35 (.buildSlice false 1 [zs] 1 [(0, (.const (.string (⟨#[110, 111, 45, 115, 117, 99, 104, 45, 110, 97, 109, 101]⟩ : ByteArray))))]), oq 36 (.append 1 16 [zs] (tq 34) (tq 35)), oq 37 (qf 3 9), oz (.store 1 (tq 37) (tq 36))]) (.seq (.region [oq 38 (qs 5 4), oq 10 (.alloc [zi, zi, zs, zn, zn]), oz (.store 5 (tq 10) (tq 38))]) (.seq (.region [oq 39 (.buildSlice false 5 [zi, zi, zs, zn, zn] 0 []), oq 40 (qf 4 4), oq 41 (ql 40), oq 42 (.append 5 80 [zi, zi, zs, zn, zn] (tq 39) (tq 41)), oq 43 (.build [zi, zi, zs, zn, zn] []), oq 44 (.buildSlice false 5 [zi, zi, zs, zn, zn] 1 [(0, (tq 43))]), oq 45 (.append 5 80 [zi, zi, zs, zn, zn] (tq 42) (tq 44)), oq 46 (qf 4 10), oz (.store 1 (tq 46) (tq 45))]) (.seq (.region [oq 47 (qm 7), oq 48 (qm 47), og 49 (qm 2) 48 true, og 50 (qf 0 4) 48 true, og 51 (ql 50) 48 true, og 52 (.bin .eql (tq 49) (tq 51)) 48 true, og 53 (qm 52) 48 true, og 54 (qm 0) 53 false, og 55 (qs 5 8) 53 false, og 56 (.call (.func 15) [((tq 54), false), ((tq 55), false)]) 53 false, og 57 (.bin .neq (tq 56) (ci 0)) 53 false, og 58 (.pick (tq 53) (cb true) (tq 57)) 48 true, oq 59 (.pick (tq 48) (tq 58) (cb false)), oq 60 (qm 59), og 61 (qm 0) 60 true, og 62 (qs 5 9) 60 true, og 63 (.call (.func 15) [((tq 61), false), ((tq 62), false)]) 60 true, og 64 (.bin .neq (tq 63) (ci 0)) 60 true, oq 65 (.pick (tq 60) (tq 64) (cb false)), oq 66 (qm 65), og 67 (qm 0) 66 true, og 68 (qs 5 10) 66 true, og 69 (.call (.func 15) [((tq 67), false), ((tq 68), false)]) 66 true, og 70 (.bin .neq (tq 69) (ci 0)) 66 true, oq 71 (.pick (tq 66) (tq 70) (cb false)), oq 6 (qm 71)]) .ret))))))))))
theorem c5 : cfn E0.P [] Tryz.f5 = some (ac5, [(.tmp 6)], 72) := by kernel_rfl

theorem wide_bd {d : List Dsc} (hw : Wide d) (hs : smallT d = true) : (∀ r, r ∈ d → BD (2 ^ 30) r) ∧ d.length < 2 ^ 30 := by
  simp only [smallT, Bool.and_eq_true, decide_eq_true_eq, List.all_eq_true] at hs
  exact ⟨fun r hr => smallR_bd (hs.2 r hr) ⟨(hw.2 r hr).2.1, (hw.2 r hr).2.2.2.2.2.2.2⟩, by omega⟩
theorem few_facts {v : Val} (hv : mxV v ≤ 2 ^ 47) (h : fewT1 v = true) : v.names.length ≤ 300 ∧ v.l.length ≤ 300 ∧ szV v ≤ 300 := by
  simp only [fewT1, Bool.and_eq_true, decide_eq_true_eq] at h
  have hb := fewVs_b [v] 300 (by simp only [mxVs, List.length_nil]; omega) (by omega)
  have hz := hb.2.2 h.1
  simp only [szVs] at hz
  have h1 := h.1
  simp only [fewVs] at h1
  rw [if_pos (by omega)] at h1
  have h2 := fewV_eq v 300
  have hl : v.l.length ≤ szVs v.l := by
    generalize v.l = l
    induction l with
    | nil => simp [szVs]
    | cons a l ih => simp only [szVs, List.length_cons]; have := szV_eq a; omega
  have hze := szV_eq v
  have hn : (0 : Int) ≤ 300 - 1 - v.names.length := by
    by_cases h0 : (0 : Int) ≤ 300 - 1 - v.names.length
    · exact h0
    · rw [h2, fewVs_neg h0] at h1; omega
  refine ⟨by omega, by omega, by omega⟩

def ac4 : ACode := (.seq (.region [oq 3 (.box (tq 1)), oq 4 (.move (cb false))]) (.seq (.region [oq 10 (.call (.func 8) []), oq 5 (qm 10)]) (.seq (.seq (.region [oq 11 (qm 0), oq 12 (.call (.func 9) [((tq 11), false)]), oq 13 (.un .not (tq 12)), oq 14 (qm 13), og 15 (qs 5 3) 14 false, og 16 (.call (.func 10) [((tq 15), false)]) 14 false, og 17 (.un .not (tq 16)) 14 false, oq 18 (.pick (tq 14) (cb true) (tq 17))]) (.cond (tq 18) (.seq (.region [oq 19 (qm 5), oq 4 (qm 19)]) .ret) .skip)) (.seq (.region [oq 21 (qm 0), oq 22 (qs 5 3), oq 23 (.call (.func 11) [((tq 21), false), ((tq 22), false)]), oq 20 (qm 23), oq 24 (.extract (tq 20) 0), oq 25 (.extract (tq 20) 1), oq 6 (.alloc [zi, zi, zs, zn, zn]), oz (.store 5 (tq 6) (tq 24)), oq 7 (qm 25)]) (.seq (.seq (.region [oq 26 (qm 7), oq 27 (.bin .neq (tq 26) (ci 0))]) (.cond (tq 27) (.seq (.region [oq 28 (qm 5), oq 29 (qm 28), og 30 (qm 7) 29 true, og 31 (qm 0) 29 true, og 32 (qs 5 3) 29 true, og 33 (.call (.func 15) [((tq 31), false), ((tq 32), false)]) 29 true, og 34 (.bin .eql (tq 30) (tq 33)) 29 true, oq 35 (.pick (tq 29) (tq 34) (cb false)), oq 36 (qm 35), og 37 (qf 0 6) 36 true, og 38 (ql 37) 36 true, og 39 (.bin .eql (tq 38) (ci 0)) 36 true, oq 40 (.pick (tq 36) (tq 39) (cb false)), oq 4 (qm 40)]) .ret) .skip)) (.seq (.seq (.region [oq 41 (qs 5 6), oq 42 (.buildSlice false 5 [zi, zi, zs, zn, zn] 1 [(0, (tq 41))]), oq 43 (.call (.func 16) [((tq 42), false), ((ci 5000), false)]), oq 44 (.un .not (tq 43))]) (.cond (tq 44) (.seq (.region [oq 45 (qm 5), oq 4 (qm 45)]) .ret) .skip)) (.seq (.region [oq 47 (qm 0), oq 48 (qs 5 6), oq 49 (.call (.func 11) [((tq 47), false), ((tq 48), false)]), oq 46 (qm 49), oq 50 (.extract (tq 46) 0), oq 51 (.extract (tq 46) 1), oq 8 (.alloc [zi, zi, zs, zn, zn]), oz (.store 5 (tq 8) (tq 50)), oq 9 (qm 51)]) (.seq (.region [oq 52 (qm 5), oq 53 (qm 52), og 54 (qm 0) 53 true, og 55 (qs 5 3) 53 true, og 56 (.call (.func 15) [((tq 54), false), ((tq 55), false)]) 53 true, og 57 (.bin .eql (tq 56) (ci 0)) 53 true, oq 58 (.pick (tq 53) (tq 57) (cb false)), oq 59 (qm 58), og 60 (qm 9) 59 true, og 61 (.bin .eql (tq 60) (ci 0)) 59 true, oq 62 (.pick (tq 59) (tq 61) (cb false)), oq 63 (qm 62), og 64 (qs 5 6) 63 true, og 65 (qs 5 8) 63 true, og 66 (.call (.func 14) [((tq 64), false), ((tq 65), false)]) 63 true, oq 67 (.pick (tq 63) (tq 66) (cb false)), oq 68 (qm 67), og 69 (qf 0 6) 68 true, og 70 (ql 69) 68 true, og 71 (qf 0 3) 68 true, og 72 (ql 71) 68 true, og 73 (.bin .eql (tq 70) (tq 72)) 68 true, oq 74 (.pick (tq 68) (tq 73) (cb false)), oq 4 (qm 74)]) .ret))))))))
theorem c4 : cfn E0.P [] Tryz.f4 = some (ac4, [(.tmp 4)], 75) := by kernel_rfl


def ac52 : ACode := (.seq (.region [oq 4 (.move (cb false))]) (.seq (.seq (.region [oq 5 (.move (ci 0))]) (.block 0 (.loop (.seq (.seq (.region [oq 6 (qm 5), oq 7 (qm 0), oq 8 (qn 7), oq 9 (.bin .lss (tq 6) (tq 8))]) (.cond (tq 9) .skip (.exit 0))) (.seq (.block 1 (.seq (.region [oq 12 (qm 0), oq 13 (qm 5), oq 14 (qx 2 12 13), oq 15 (qf 0 14), oq 16 (ql 15), oq 17 (qm 1), oq 18 (.bin .leq (tq 16) (tq 17)), oq 19 (qm 18), og 20 (qm 1) 19 true, og 21 (qm 0) 19 true, og 22 (qm 5) 19 true, og 23 (qx 2 21 22) 19 true, og 24 (qf 1 23) 19 true, og 25 (ql 24) 19 true, og 26 (.bin .leq (tq 20) (tq 25)) 19 true, oq 27 (.pick (tq 19) (tq 26) (cb false))]) (.cond (tq 27) (.seq (.region [oq 4 (.move (cb true))]) .ret) .skip))) (.region [oq 10 (qm 5), oq 11 (.bin .add (tq 10) (ci 1)), oq 5 (qm 11)])))))) (.seq (.region [oq 4 (.move (cb false))]) .ret)))
theorem c52 : cfn E0.P [] Tryz.f52 = some (ac52, [(.tmp 4)], 28) := by kernel_rfl
def ac136 : ACode := (.seq (.region [oq 4 (.move (.const (.slice none 0 0)))]) (.seq (.seq (.region [oq 5 (.move (ci 0))]) (.block 0 (.loop (.seq (.seq (.region [oq 6 (qm 5), oq 7 (qm 1), oq 8 (qn 7), oq 9 (.bin .lss (tq 6) (tq 8))]) (.cond (tq 9) .skip (.exit 0))) (.seq (.block 1 (.seq (.draw [oq 12 (qm 1), oq 13 (qm 5), oq 14 (qx 2 12 13), oq 15 (qf 0 14), oq 16 (ql 15), oq 17 (qm 1), oq 18 (qm 5), oq 19 (qx 2 17 18), oq 20 (qf 1 19), oq 21 (ql 20), oq 22 (.bin .leq (tq 16) (tq 21))]) (.cond (tq 22) (.seq (.region [oq 23 (qm 0), oq 24 (qm 1), oq 25 (qm 5), oq 26 (qx 2 24 25), oq 27 (qf 0 26), oq 28 (ql 27), oq 29 (.call (.func 141) [((tq 23), false), ((tq 28), false)]), oq 0 (qm 29)]) (.seq (.region [oq 30 (qm 1), oq 31 (qm 5), oq 32 (qx 2 30 31), oq 33 (qf 1 32), oq 34 (ql 33), oq 35 (.bin .lss (tq 34) (ci 9223372036854775807))]) (.cond (tq 35) (.region [oq 36 (qm 0), oq 37 (qm 1), oq 38 (qm 5), oq 39 (qx 2 37 38), oq 40 (qf 1 39), oq 41 (ql 40), oq 42 (.bin .add (tq 41) (ci 1)), oq 43 (.call (.func 141) [((tq 36), false), ((tq 42), false)]), oq 0 (qm 43)]) .skip))) .skip))) (.region [oq 10 (qm 5), oq 11 (.bin .add (tq 10) (ci 1)), oq 5 (qm 11)])))))) (.seq (.region [oq 44 (qm 0), oq 4 (qm 44)]) .ret)))
theorem c136 : cfn E0.P [] Tryz.f136 = some (ac136, [(.tmp 4)], 45) := by kernel_rfl
def ac141 : ACode := (.seq (.region [oq 4 (.move (.const (.slice none 0 0)))]) (.seq (.region [oq 5 (.move (ci 0))]) (.seq (.block 0 (.loop (.seq (.seq (.region [oq 7 (qm 5), oq 8 (qm 0), oq 9 (qn 8), oq 10 (.bin .lss (tq 7) (tq 9)), oq 11 (qm 10), og 12 (qm 0) 11 true, og 13 (qm 5) 11 true, og 14 (qx 1 12 13) 11 true, og 15 (ql 14) 11 true, og 16 (qm 1) 11 true, og 17 (.bin .lss (tq 15) (tq 16)) 11 true, oq 18 (.pick (tq 11) (tq 17) (cb false))]) (.cond (tq 18) .skip (.exit 0))) (.block 1 (.region [oq 19 (qm 5), oq 20 (.bin .add (tq 19) (ci 1)), oq 5 (qm 20)]))))) (.seq (.seq (.region [oq 21 (qm 5), oq 22 (qm 0), oq 23 (qn 22), oq 24 (.bin .lss (tq 21) (tq 23)), oq 25 (qm 24), og 26 (qm 0) 25 true, og 27 (qm 5) 25 true, og 28 (qx 1 26 27) 25 true, og 29 (ql 28) 25 true, og 30 (qm 1) 25 true, og 31 (.bin .eql (tq 29) (tq 30)) 25 true, oq 32 (.pick (tq 25) (tq 31) (cb false))]) (.cond (tq 32) (.seq (.region [oq 33 (qm 0), oq 4 (qm 33)]) .ret) .skip)) (.seq (.region [oq 6 (.move (.const (.slice none 0 0)))]) (.seq (.region [oq 34 (.take 6), oq 35 (qm 0), oq 36 (qm 5), oq 37 (.slice 1 (tq 35) none (some (tq 36))), oq 38 (.append 1 8 [zi] (tq 34) (tq 37)), oq 6 (.take 38)]) (.seq (.region [oq 39 (.take 6), oq 40 (qm 1), oq 41 (.buildSlice false 1 [zi] 1 [(0, (tq 40))]), oq 42 (.append 1 8 [zi] (tq 39) (tq 41)), oq 6 (.take 42)]) (.seq (.region [oq 43 (.take 6), oq 44 (qm 0), oq 45 (qm 5), oq 46 (.slice 1 (tq 44) (some (tq 45)) none), oq 47 (.append 1 8 [zi] (tq 43) (tq 46)), oq 4 (.take 47)]) .ret))))))))
theorem c141 : cfn E0.P [(7, 0), (7, 5), (8, 0), (8, 4), (9, 0), (9, 5)] Tryz.f141 = some (ac141, [(.tmp 4)], 48) := by kernel_rfl

theorem rhas_ev (l : List Rg) (n : Int) (hl : l.length < 2 ^ 60) (h : List AObj) : EvR E0 52 [rgl l, i64 n] h (boolv (inSet l n)) := by
  refine ev_of (fn := Tryz.f52) (hs := []) Tryz.func52 c52 (by simp) fun hcl => ?_
  unfold inSet
  generalize hR : (l.any fun x => decide (x.lo ≤ n) && decide (n ≤ x.hi)) = R
  simp only [ac52, awH, ↓awD, awP, Nat.reduceLeDiff, Nat.reduceEqDiff, Nat.reduceAdd, Int.reduceLT, Int.reduceLE, Int.reduceEq]
  refine LoopF.list l hl (γ := Unit) (fun i _ => ⟨[(0, rgl l), (1, i64 n), (5, i64 i)], h⟩) (fun i _ => ((l.drop i).any fun x => decide (x.lo ≤ n) && decide (n ≤ x.hi)) = R) () (by simpa using hR) (weak_of rfl (by simp [look])) ?_ ?_
  · rintro i a _ ha hv hi e1 w3
    rw [drop_get ha, List.any_cons] at hv
    have hga := map_get rgv l i a ha
    simp only [e1, w3, awH, ↓awD, awP, Nat.reduceLeDiff, Nat.reduceEqDiff, Nat.reduceAdd, Int.reduceLT, Int.reduceLE, Int.reduceEq]
    repeat' (first | ((try refine Need.mk (by first | (first | omega | (simp only [awO] at *; omega) | (simp; omega)) | (constructor <;> (first | omega | (simp only [awO] at *; omega) | (simp; omega)))) ?_); refine Elem.recs hga (by first | (rw [rgv_eq]; exact ⟨rfl, rfl⟩) | exact ⟨rfl, rfl⟩) ?_; simp only [rgv_eq, w3, aw21, awH, ↓awD, awP, Nat.reduceLeDiff, Nat.reduceEqDiff, Nat.reduceAdd, Int.reduceLT, Int.reduceLE, Int.reduceEq]) | (refine BrF.mk (fun hb => ?_) (fun hb => ?_) <;> (try rw [hb]) <;> simp only [w3, aw21, awH, ↓awD, awP, Nat.reduceLeDiff, Nat.reduceEqDiff, Nat.reduceAdd, Int.reduceLT, Int.reduceLE, Int.reduceEq]))
    all_goals (simp only [*, Bool.true_and, Bool.false_and, Bool.true_or, Bool.false_or] at hv)
    all_goals first
      | exact ⟨(i + 1, ()), ⟨hi, hv⟩, by simp only; omega, weak_of rfl (by simp [look])⟩
      | (subst hv; exact Fin.end hcl rfl (by first | rfl | exact (List.append_nil _).symm | (simp only [List.append_assoc]; rfl)) ⟨rfl, rfl⟩)
  · rintro _ hv e1
    rw [drop_len, List.any_nil] at hv
    subst hv
    simp only [e1, awH, ↓awD, awP, Nat.reduceLeDiff, Nat.reduceEqDiff, Nat.reduceAdd, Int.reduceLT, Int.reduceLE, Int.reduceEq]
    exact Fin.end hcl rfl (by first | rfl | exact (List.append_nil _).symm | (simp only [List.append_assoc]; rfl)) ⟨rfl, rfl⟩

def kT (n : Int) : List Int → Nat
  | [] => 0
  | a :: l => if a < n then kT n l + 1 else 0
def placeT (n : Int) : List Int → List Int
  | [] => [n]
  | a :: l => if a < n then a :: placeT n l else if a = n then a :: l else n :: a :: l
theorem kT_le (n : Int) : ∀ l, kT n l ≤ l.length
  | [] => Nat.le_refl _
  | a :: l => by unfold kT; have := kT_le n l; split <;> simp only [List.length_cons] <;> omega
theorem kT_lt (n : Int) : ∀ (l : List Int) (i : Nat), i < kT n l → ∃ a, l[i]? = some a ∧ a < n
  | [], i, h => by simp [kT] at h
  | a :: l, i, h => by
    unfold kT at h
    split at h
    · rename_i ha
      cases i with
      | zero => exact ⟨a, rfl, ha⟩
      | succ i => obtain ⟨b, h1, h2⟩ := kT_lt n l i (by omega); exact ⟨b, by simpa using h1, h2⟩
    · omega
theorem kT_at (n : Int) : ∀ (l : List Int), kT n l < l.length → ∃ a, l[kT n l]? = some a ∧ ¬ a < n
  | [], h => by simp at h
  | a :: l, h => by
    unfold kT at h ⊢
    split
    · rename_i ha
      rw [if_pos ha] at h
      obtain ⟨b, h1, h2⟩ := kT_at n l (by simpa using h)
      exact ⟨b, by simpa using h1, h2⟩
    · rename_i ha
      exact ⟨a, rfl, ha⟩
theorem place_eq (n : Int) : ∀ (l : List Int), placeT n l = if l[kT n l]? = some n then l else l.take (kT n l) ++ [n] ++ l.drop (kT n l)
  | [] => by simp [placeT, kT]
  | a :: l => by
    have ih := place_eq n l
    unfold placeT kT
    by_cases ha : a < n
    · simp only [ha, if_true, List.getElem?_cons_succ, List.take_succ_cons, List.drop_succ_cons, ih]
      split <;> simp
    · simp only [ha, if_false, List.getElem?_cons_zero, Option.some.injEq, List.take_zero, List.drop_zero, List.nil_append]
      split <;> simp_all
theorem place_len (n : Int) : ∀ (l : List Int), (placeT n l).length ≤ l.length + 1
  | [] => by simp [placeT]
  | a :: l => by
    have := place_len n l
    unfold placeT
    split
    · simp only [List.length_cons]; omega
    · split <;> simp
theorem fit_ints (l : List Int) : Fit 1 (l.map i64) := by
  intro e he; obtain ⟨c, _, rfl⟩ := List.mem_map.1 he; exact ⟨rfl, rfl⟩
theorem one_ints (l : List Int) : allOne (l.map i64) := by
  intro e he; obtain ⟨c, _, rfl⟩ := List.mem_map.1 he; rfl
theorem low_ints (l : List Int) : lows (l.map i64) = l.map i64 := low_map _ (fun _ => rfl) l
theorem place_ev (l : List Int) (n : Int) (hl : l.length < 2 ^ 40) (h : List AObj) : EvR E0 141 [intl l, i64 n] h (intl (placeT n l)) := by
  have hk := kT_le n l
  have hpe := place_eq n l
  by_cases hp : l[kT n l]? = some n
  · rw [if_pos hp] at hpe
    rw [hpe]
    have hkl : kT n l < l.length := (List.getElem?_eq_some_iff.1 hp).1
    refine ev_of (fn := Tryz.f141) (hs := [(7, 0), (7, 5), (8, 0), (8, 4), (9, 0), (9, 5)]) Tryz.func141 c141 (by simp) fun hcl => ?_
    simp only [ac141, awH, ↓awD, awP, Nat.reduceLeDiff, Nat.reduceEqDiff, Nat.reduceAdd, Int.reduceLT, Int.reduceLE, Int.reduceEq]
    refine LoopF.by (α := Nat) (fun i => ⟨[(0, intl l), (1, i64 n), (5, i64 i)], h⟩) (fun i => l.length - i) (fun i => i ≤ kT n l) 0 (Nat.zero_le _) (weak_of rfl (by simp [look])) ?_
    intro i hi
    have e1 : decide ((i : Int) < (l.length : Int)) = true := by rw [decide_eq_true_eq]; omega
    have w3 : IntKind.i64.wrap ((i : Int) + 1) = ((i + 1 : Nat) : Int) := by rw [wrap_i64] <;> omega
    rcases Nat.lt_or_ge i (kT n l) with hik | hik
    · obtain ⟨a, ha, han⟩ := kT_lt n l i hik
      have hga := map_get i64 l i a ha
      have d1 : decide (a < n) = true := decide_eq_true han
      simp only [e1, w3, d1, awH, ↓awD, awP, Nat.reduceLeDiff, Nat.reduceEqDiff, Nat.reduceAdd, Int.reduceLT, Int.reduceLE, Int.reduceEq]
      refine Need.mk ⟨by omega, by omega⟩ (Elem.recs hga ⟨rfl, rfl⟩ ?_)
      simp only [e1, w3, d1, awH, ↓awD, awP, Nat.reduceLeDiff, Nat.reduceEqDiff, Nat.reduceAdd, Int.reduceLT, Int.reduceLE, Int.reduceEq]
      exact ⟨i + 1, hik, by omega, weak_of rfl (by simp [look])⟩
    · obtain rfl : i = kT n l := by omega
      have hga := map_get i64 l _ n hp
      have d1 : decide (n < n) = false := decide_eq_false (Int.lt_irrefl n)
      have d2 : decide (n = n) = true := decide_eq_true rfl
      simp only [e1, w3, d1, awH, ↓awD, awP, Nat.reduceLeDiff, Nat.reduceEqDiff, Nat.reduceAdd, Int.reduceLT, Int.reduceLE, Int.reduceEq]
      refine Need.mk ⟨by omega, by omega⟩ (Elem.recs hga ⟨rfl, rfl⟩ ?_)
      simp only [e1, w3, d1, d2, awH, ↓awD, awP, Nat.reduceLeDiff, Nat.reduceEqDiff, Nat.reduceAdd, Int.reduceLT, Int.reduceLE, Int.reduceEq]
      refine Need.mk ⟨by omega, by omega⟩ (Elem.recs hga ⟨rfl, rfl⟩ ?_)
      simp only [e1, w3, d1, d2, awH, ↓awD, awP, Nat.reduceLeDiff, Nat.reduceEqDiff, Nat.reduceAdd, Int.reduceLT, Int.reduceLE, Int.reduceEq]
      exact Fin.end hcl (by first | rfl | (simp only [AV.under, unders, und_val, und_vals, und_strs, und_ints, und_rgs, und_flds, und_dsc, und_dscs, Bool.and_self, Bool.and_true, Bool.true_and])) (by first | rfl | exact (List.append_nil _).symm | (simp only [List.append_assoc]; rfl)) ⟨rfl, rfl⟩
  · rw [if_neg hp] at hpe
    rw [hpe]
    refine ev_of (fn := Tryz.f141) (hs := [(7, 0), (7, 5), (8, 0), (8, 4), (9, 0), (9, 5)]) Tryz.func141 c141 (by simp) fun hcl => ?_
    simp only [ac141, awH, ↓awD, awP, Nat.reduceLeDiff, Nat.reduceEqDiff, Nat.reduceAdd, Int.reduceLT, Int.reduceLE, Int.reduceEq]
    refine LoopF.by (α := Nat) (fun i => ⟨[(0, intl l), (1, i64 n), (5, i64 i)], h⟩) (fun i => l.length - i) (fun i => i ≤ kT n l) 0 (Nat.zero_le _) (weak_of rfl (by simp [look])) ?_
    intro i hi
    have w3 : IntKind.i64.wrap ((i : Int) + 1) = ((i + 1 : Nat) : Int) := by rw [wrap_i64] <;> omega
    rcases Nat.lt_or_ge i (kT n l) with hik | hik
    · obtain ⟨a, ha, han⟩ := kT_lt n l i hik
      have e1 : decide ((i : Int) < (l.length : Int)) = true := by rw [decide_eq_true_eq]; omega
      have hga := map_get i64 l i a ha
      have d1 : decide (a < n) = true := decide_eq_true han
      simp only [e1, w3, d1, awH, ↓awD, awP, Nat.reduceLeDiff, Nat.reduceEqDiff, Nat.reduceAdd, Int.reduceLT, Int.reduceLE, Int.reduceEq]
      refine Need.mk ⟨by omega, by omega⟩ (Elem.recs hga ⟨rfl, rfl⟩ ?_)
      simp only [e1, w3, d1, awH, ↓awD, awP, Nat.reduceLeDiff, Nat.reduceEqDiff, Nat.reduceAdd, Int.reduceLT, Int.reduceLE, Int.reduceEq]
      exact ⟨i + 1, hik, by omega, weak_of rfl (by simp [look])⟩
    · obtain rfl : i = kT n l := by omega
      by_cases hkl : kT n l < l.length
      · obtain ⟨a, ha, han⟩ := kT_at n l hkl
        have hga := map_get i64 l _ a ha
        have e1 : decide ((kT n l : Int) < (l.length : Int)) = true := by rw [decide_eq_true_eq]; omega
        have d1 : decide (a < n) = false := decide_eq_false han
        have d2 : decide (a = n) = false := decide_eq_false fun hh => hp (by rw [ha, hh])
        simp only [e1, w3, d1, awH, ↓awD, awP, Nat.reduceLeDiff, Nat.reduceEqDiff, Nat.reduceAdd, Int.reduceLT, Int.reduceLE, Int.reduceEq]
        refine Need.mk ⟨by omega, by omega⟩ (Elem.recs hga ⟨rfl, rfl⟩ ?_)
        simp only [e1, w3, d1, d2, awH, ↓awD, awP, Nat.reduceLeDiff, Nat.reduceEqDiff, Nat.reduceAdd, Int.reduceLT, Int.reduceLE, Int.reduceEq]
        refine Need.mk ⟨by omega, by omega⟩ (Elem.recs hga ⟨rfl, rfl⟩ ?_)
        simp only [e1, w3, d1, d2, awH, ↓awD, awP, Nat.reduceLeDiff, Nat.reduceEqDiff, Nat.reduceAdd, Int.reduceLT, Int.reduceLE, Int.reduceEq]
        refine Need.mk ⟨by omega, by omega, .inl trivial⟩ ?_
        simp only [e1, Int.toNat_zero, Int.toNat_natCast, ← List.map_take, List.nil_append, awH, ↓awD, awP, Nat.reduceLeDiff, Nat.reduceEqDiff, Nat.reduceAdd, Int.reduceLT, Int.reduceLE, Int.reduceEq]
        refine Need.mk (by (repeat' apply And.intro) <;> first | decide | rfl | exact .inr (fun e he => by cases he) | exact .inl rfl | exact .inl trivial | exact fit_ints _ | exact one_ints _ | exact fit_ints [_] | exact one_ints [_] | (simp only [List.length_map, List.length_append, List.length_take, List.length_drop, List.length_nil, List.length_cons]; omega) | omega) ?_
        simp only [e1, Int.toNat_zero, Int.toNat_natCast, ← List.map_take, ← List.map_drop, List.take_length, List.nil_append, awH, ↓awD, awP, Nat.reduceLeDiff, Nat.reduceEqDiff, Nat.reduceAdd, Int.reduceLT, Int.reduceLE, Int.reduceEq]
        (refine Need.mk (by simp only [litParts, List.mem_cons, List.not_mem_nil, or_false, forall_eq_or_imp, forall_eq]; refine ⟨by decide, by decide, by decide, ?_⟩; repeat' (first | exact ⟨rfl, rfl, rfl⟩ | rfl | constructor)) ?_; simp only [e1, awH, ↓awD, awP, Nat.reduceLeDiff, Nat.reduceEqDiff, Nat.reduceAdd, Int.reduceLT, Int.reduceLE, Int.reduceEq])
        refine Need.mk (by (repeat' apply And.intro) <;> first | decide | rfl | exact .inr (fun e he => by cases he) | exact .inl rfl | exact .inl trivial | exact fit_ints _ | exact one_ints _ | exact fit_ints [_] | exact one_ints [_] | (simp only [List.length_map, List.length_append, List.length_take, List.length_drop, List.length_nil, List.length_cons]; omega) | omega) ?_
        simp only [e1, Int.toNat_zero, Int.toNat_natCast, ← List.map_take, ← List.map_drop, List.take_length, List.nil_append, awH, ↓awD, awP, Nat.reduceLeDiff, Nat.reduceEqDiff, Nat.reduceAdd, Int.reduceLT, Int.reduceLE, Int.reduceEq]
        refine Need.mk ⟨by omega, by omega, Int.le_refl _, .inr fun e he => fit_ints _ e he⟩ ?_
        simp only [e1, Int.toNat_zero, Int.toNat_natCast, ← List.map_take, ← List.map_drop, List.take_length, List.nil_append, awH, ↓awD, awP, Nat.reduceLeDiff, Nat.reduceEqDiff, Nat.reduceAdd, Int.reduceLT, Int.reduceLE, Int.reduceEq]
        refine Need.mk (by (repeat' apply And.intro) <;> first | decide | rfl | exact .inr (fun e he => by cases he) | exact .inl rfl | exact .inl trivial | exact fit_ints _ | exact one_ints _ | exact fit_ints [_] | exact one_ints [_] | (simp only [List.length_map, List.length_append, List.length_take, List.length_drop, List.length_nil, List.length_cons]; omega) | omega) ?_
        simp only [e1, Int.toNat_zero, Int.toNat_natCast, ← List.map_take, ← List.map_drop, List.take_length, List.nil_append, awH, ↓awD, awP, Nat.reduceLeDiff, Nat.reduceEqDiff, Nat.reduceAdd, Int.reduceLT, Int.reduceLE, Int.reduceEq]
        rw [show ∀ (a c : List Int), a.map i64 ++ [AV.lit (Value.int IntKind.i64 n)] ++ c.map i64 = (a ++ [n] ++ c).map i64 from fun a c => by simp]
        refine Fin.end hcl (und_ints _ _) (by first | rfl | exact (List.append_nil _).symm | (simp only [List.append_assoc]; rfl)) ⟨?_, rfl⟩
        rfl
      · have e1 : decide ((kT n l : Int) < (l.length : Int)) = false := by rw [decide_eq_false_iff_not]; omega
        simp only [e1, w3, awH, ↓awD, awP, Nat.reduceLeDiff, Nat.reduceEqDiff, Nat.reduceAdd, Int.reduceLT, Int.reduceLE, Int.reduceEq]
        refine Need.mk ⟨by omega, by omega, .inl trivial⟩ ?_
        simp only [e1, Int.toNat_zero, Int.toNat_natCast, ← List.map_take, List.nil_append, awH, ↓awD, awP, Nat.reduceLeDiff, Nat.reduceEqDiff, Nat.reduceAdd, Int.reduceLT, Int.reduceLE, Int.reduceEq]
        refine Need.mk (by (repeat' apply And.intro) <;> first | decide | rfl | exact .inr (fun e he => by cases he) | exact .inl rfl | exact .inl trivial | exact fit_ints _ | exact one_ints _ | exact fit_ints [_] | exact one_ints [_] | (simp only [List.length_map, List.length_append, List.length_take, List.length_drop, List.length_nil, List.length_cons]; omega) | omega) ?_
        simp only [e1, Int.toNat_zero, Int.toNat_natCast, ← List.map_take, ← List.map_drop, List.take_length, List.nil_append, awH, ↓awD, awP, Nat.reduceLeDiff, Nat.reduceEqDiff, Nat.reduceAdd, Int.reduceLT, Int.reduceLE, Int.reduceEq]
        (refine Need.mk (by simp only [litParts, List.mem_cons, List.not_mem_nil, or_false, forall_eq_or_imp, forall_eq]; refine ⟨by decide, by decide, by decide, ?_⟩; repeat' (first | exact ⟨rfl, rfl, rfl⟩ | rfl | constructor)) ?_; simp only [e1, awH, ↓awD, awP, Nat.reduceLeDiff, Nat.reduceEqDiff, Nat.reduceAdd, Int.reduceLT, Int.reduceLE, Int.reduceEq])
        refine Need.mk (by (repeat' apply And.intro) <;> first | decide | rfl | exact .inr (fun e he => by cases he) | exact .inl rfl | exact .inl trivial | exact fit_ints _ | exact one_ints _ | exact fit_ints [_] | exact one_ints [_] | (simp only [List.length_map, List.length_append, List.length_take, List.length_drop, List.length_nil, List.length_cons]; omega) | omega) ?_
        simp only [e1, Int.toNat_zero, Int.toNat_natCast, ← List.map_take, ← List.map_drop, List.take_length, List.nil_append, awH, ↓awD, awP, Nat.reduceLeDiff, Nat.reduceEqDiff, Nat.reduceAdd, Int.reduceLT, Int.reduceLE, Int.reduceEq]
        refine Need.mk ⟨by omega, by omega, Int.le_refl _, .inr fun e he => fit_ints _ e he⟩ ?_
        simp only [e1, Int.toNat_zero, Int.toNat_natCast, ← List.map_take, ← List.map_drop, List.take_length, List.nil_append, awH, ↓awD, awP, Nat.reduceLeDiff, Nat.reduceEqDiff, Nat.reduceAdd, Int.reduceLT, Int.reduceLE, Int.reduceEq]
        refine Need.mk (by (repeat' apply And.intro) <;> first | decide | rfl | exact .inr (fun e he => by cases he) | exact .inl rfl | exact .inl trivial | exact fit_ints _ | exact one_ints _ | exact fit_ints [_] | exact one_ints [_] | (simp only [List.length_map, List.length_append, List.length_take, List.length_drop, List.length_nil, List.length_cons]; omega) | omega) ?_
        simp only [e1, Int.toNat_zero, Int.toNat_natCast, ← List.map_take, ← List.map_drop, List.take_length, List.nil_append, awH, ↓awD, awP, Nat.reduceLeDiff, Nat.reduceEqDiff, Nat.reduceAdd, Int.reduceLT, Int.reduceLE, Int.reduceEq]
        rw [show ∀ (a c : List Int), a.map i64 ++ [AV.lit (Value.int IntKind.i64 n)] ++ c.map i64 = (a ++ [n] ++ c).map i64 from fun a c => by simp]
        refine Fin.end hcl (und_ints _ _) (by first | rfl | exact (List.append_nil _).symm | (simp only [List.append_assoc]; rfl)) ⟨?_, rfl⟩
        rfl

def startT (l : List Int) (x : Rg) : List Int := bif decide (x.lo ≤ x.hi) then (bif decide (x.hi < 9223372036854775807) then placeT (x.hi + 1) (placeT x.lo l) else placeT x.lo l) else l
def startsT (l : List Int) (s : List Rg) : List Int := s.foldl startT l
theorem start_len (l : List Int) (x : Rg) : (startT l x).length ≤ l.length + 2 := by
  unfold startT
  have h1 := place_len x.lo l
  have h2 := place_len (x.hi + 1) (placeT x.lo l)
  cases decide (x.lo ≤ x.hi) <;> cases decide (x.hi < 9223372036854775807) <;> simp only [cond_true, cond_false] <;> omega
theorem starts_len : ∀ (s : List Rg) (l : List Int), (startsT l s).length ≤ l.length + 2 * s.length
  | [], l => by simp [startsT]
  | x :: s, l => by
    have h1 := starts_len s (startT l x)
    have h2 := start_len l x
    show (startsT (startT l x) s).length ≤ _
    simp only [List.length_cons]; omega
theorem starts_ev (l : List Int) (s : List Rg) (hl : l.length + 2 * s.length < 2 ^ 40) (h : List AObj) : EvR E0 136 [intl l, rgl s] h (intl (startsT l s)) := by
  refine ev_of (fn := Tryz.f136) (hs := []) Tryz.func136 c136 (by simp) fun hcl => ?_
  generalize hR : startsT l s = R
  simp only [ac136, awH, ↓awD, awP, Nat.reduceLeDiff, Nat.reduceEqDiff, Nat.reduceAdd, Int.reduceLT, Int.reduceLE, Int.reduceEq]
  refine LoopF.list s (by omega) (γ := List Int) (fun i g => ⟨[(0, intl g), (1, rgl s), (5, i64 i)], h⟩) (fun i g => g.length ≤ l.length + 2 * i ∧ startsT g (s.drop i) = R) l ⟨by omega, by simpa using hR⟩ (weak_of rfl (by simp [look])) ?_ ?_
  · rintro i x g hx ⟨hgl, hv⟩ hi e1 w3
    rw [drop_get hx] at hv
    have hv : startsT (startT g x) (s.drop (i + 1)) = R := hv
    have hgx := map_get rgv s i x hx
    have h2 := start_len g x
    have hp1 := place_len x.lo g
    have hc1 := fun h => place_ev g x.lo (by omega) h
    have hc2 := fun h => place_ev (placeT x.lo g) (x.hi + 1) (by omega) h
    have hok := x.ok.2
    unfold InR at hok
    simp only [e1, awH, ↓awD, awP, Nat.reduceLeDiff, Nat.reduceEqDiff, Nat.reduceAdd, Int.reduceLT, Int.reduceLE, Int.reduceEq]
    cases h1 : decide (x.lo ≤ x.hi)
    · have hst : startT g x = g := by unfold startT; rw [h1]; rfl
      rw [hst] at hv
      repeat' (first | ((try refine Need.mk (by first | (first | omega | (simp only [awO] at *; omega) | (simp; omega)) | (constructor <;> (first | omega | (simp only [awO] at *; omega) | (simp; omega)))) ?_); refine Elem.recs hgx (by first | (rw [rgv_eq]; exact ⟨rfl, rfl⟩) | exact ⟨rfl, rfl⟩) ?_; simp only [rgv_eq, w3, h1, aw21, awH, ↓awD, awP, Nat.reduceLeDiff, Nat.reduceEqDiff, Nat.reduceAdd, Int.reduceLT, Int.reduceLE, Int.reduceEq]))
      exact ⟨(i + 1, g), ⟨hi, by simp only; omega, hv⟩, by simp only; omega, weak_of rfl (by simp [look])⟩
    · cases h3 : decide (x.hi < 9223372036854775807)
      · have hst : startT g x = placeT x.lo g := by unfold startT; rw [h1, h3]; rfl
        rw [hst] at hv h2
        repeat' (first | ((try refine Need.mk (by first | (first | omega | (simp only [awO] at *; omega) | (simp; omega)) | (constructor <;> (first | omega | (simp only [awO] at *; omega) | (simp; omega)))) ?_); refine Elem.recs hgx (by first | (rw [rgv_eq]; exact ⟨rfl, rfl⟩) | exact ⟨rfl, rfl⟩) ?_; simp only [rgv_eq, w3, h1, h3, aw21, awH, ↓awD, awP, Nat.reduceLeDiff, Nat.reduceEqDiff, Nat.reduceAdd, Int.reduceLT, Int.reduceLE, Int.reduceEq]) | ((first | refine EvF.ret (hc1 _) ?_ | refine EvRF.ret (hc1 _) ?_); simp only [w3, h3, aw21, awH, ↓awD, awP, Nat.reduceLeDiff, Nat.reduceEqDiff, Nat.reduceAdd, Int.reduceLT, Int.reduceLE, Int.reduceEq]))
        exact ⟨(i + 1, placeT x.lo g), ⟨hi, by simp only; omega, hv⟩, by simp only; omega, weak_of rfl (by simp [look])⟩
      · have hst : startT g x = placeT (x.hi + 1) (placeT x.lo g) := by unfold startT; rw [h1, h3]; rfl
        rw [hst] at hv h2
        have w1 : IntKind.i64.wrap (x.hi + 1) = x.hi + 1 := by rw [decide_eq_true_eq] at h3; rw [wrap_i64] <;> omega
        repeat' (first | ((try refine Need.mk (by first | (first | omega | (simp only [awO] at *; omega) | (simp; omega)) | (constructor <;> (first | omega | (simp only [awO] at *; omega) | (simp; omega)))) ?_); refine Elem.recs hgx (by first | (rw [rgv_eq]; exact ⟨rfl, rfl⟩) | exact ⟨rfl, rfl⟩) ?_; simp only [rgv_eq, w3, h1, h3, w1, aw21, awH, ↓awD, awP, Nat.reduceLeDiff, Nat.reduceEqDiff, Nat.reduceAdd, Int.reduceLT, Int.reduceLE, Int.reduceEq]) | ((first | refine EvF.ret (hc1 _) ?_ | refine EvRF.ret (hc1 _) ?_); simp only [w3, h3, w1, aw21, awH, ↓awD, awP, Nat.reduceLeDiff, Nat.reduceEqDiff, Nat.reduceAdd, Int.reduceLT, Int.reduceLE, Int.reduceEq]) | ((first | refine EvF.ret (hc2 _) ?_ | refine EvRF.ret (hc2 _) ?_); simp only [w3, h3, w1, aw21, awH, ↓awD, awP, Nat.reduceLeDiff, Nat.reduceEqDiff, Nat.reduceAdd, Int.reduceLT, Int.reduceLE, Int.reduceEq]))
        exact ⟨(i + 1, placeT (x.hi + 1) (placeT x.lo g)), ⟨hi, by simp only; omega, hv⟩, by simp only; omega, weak_of rfl (by simp [look])⟩
  · rintro g ⟨hgl, hv⟩ e1
    rw [drop_len] at hv
    have hv : g = R := hv
    subst hv
    simp only [e1, awH, ↓awD, awP, Nat.reduceLeDiff, Nat.reduceEqDiff, Nat.reduceAdd, Int.reduceLT, Int.reduceLE, Int.reduceEq]
    exact Fin.end hcl (und_ints _ _) (by first | rfl | exact (List.append_nil _).symm | (simp only [List.append_assoc]; rfl)) ⟨rfl, rfl⟩

def ac122 : ACode := (.seq (.region [oq 6 (.move (.const (.slice none 0 0)))]) (.seq (.region [oq 13 (.buildSlice false 1 [zi] 1 [(0, (.const (.int .i64 (-9223372036854775808))))]), oq 14 (qm 0), oq 15 (.call (.func 136) [((tq 13), false), ((tq 14), false)]), oq 16 (qm 1), oq 17 (.call (.func 136) [((tq 15), false), ((tq 16), false)]), oq 7 (qm 17)]) (.seq (.region [oq 8 (.move (.const (.slice none 0 0)))]) (.seq (.seq (.region [oq 9 (.move (ci 0))]) (.block 0 (.loop (.seq (.seq (.region [oq 18 (qm 9), oq 19 (qm 7), oq 20 (qn 19), oq 21 (.bin .lss (tq 18) (tq 20))]) (.cond (tq 21) .skip (.exit 0))) (.seq (.block 1 (.seq (.region [oq 24 (qm 0), oq 25 (qm 7), oq 26 (qm 9), oq 27 (qx 1 25 26), oq 28 (ql 27), oq 29 (.call (.func 52) [((tq 24), false), ((tq 28), false)]), oq 10 (qm 29)]) (.seq (.region [oq 30 (qm 1), oq 31 (qm 7), oq 32 (qm 9), oq 33 (qx 1 31 32), oq 34 (ql 33), oq 35 (.call (.func 52) [((tq 30), false), ((tq 34), false)]), oq 11 (qm 35)]) (.seq (.seq (.region [oq 36 (qm 2), oq 37 (.bin .eql (tq 36) (ci 0)), oq 38 (qm 37), og 39 (qm 10) 38 true, og 40 (qm 39) 38 true, og 41 (qm 11) 40 false, og 42 (.pick (tq 40) (cb true) (tq 41)) 38 true, og 43 (.un .not (tq 42)) 38 true, oq 44 (.pick (tq 38) (tq 43) (cb false)), oq 45 (qm 44), og 46 (qm 2) 45 false, og 47 (.bin .eql (tq 46) (ci 1)) 45 false, og 48 (qm 47) 45 false, og 49 (qm 10) 48 true, og 50 (qm 49) 48 true, og 51 (qm 11) 50 true, og 52 (.pick (tq 50) (tq 51) (cb false)) 48 true, og 53 (.un .not (tq 52)) 48 true, og 54 (.pick (tq 48) (tq 53) (cb false)) 45 false, oq 55 (.pick (tq 45) (cb true) (tq 54)), oq 56 (qm 55), og 57 (qm 2) 56 false, og 58 (.bin .eql (tq 57) (ci 2)) 56 false, og 59 (qm 58) 56 false, og 60 (qm 10) 59 true, og 61 (qm 60) 59 true, og 62 (qm 11) 61 true, og 63 (.un .not (tq 62)) 61 true, og 64 (.pick (tq 61) (tq 63) (cb false)) 59 true, og 65 (.un .not (tq 64)) 59 true, og 66 (.pick (tq 59) (tq 65) (cb false)) 56 false, oq 67 (.pick (tq 56) (cb true) (tq 66))]) (.cond (tq 67) (.exit 1) .skip)) (.seq (.region [oq 12 (.move (ci 9223372036854775807))]) (.seq (.seq (.region [oq 68 (qm 9), oq 69 (.bin .add (tq 68) (ci 1)), oq 70 (qm 7), oq 71 (qn 70), oq 72 (.bin .lss (tq 69) (tq 71))]) (.cond (tq 72) (.region [oq 73 (qm 7), oq 74 (qm 9), oq 75 (.bin .add (tq 74) (ci 1)), oq 76 (qx 1 73 75), oq 77 (ql 76), oq 78 (.bin .sub (tq 77) (ci 1)), oq 12 (qm 78)]) .skip)) (.seq (.draw [oq 79 (qm 8), oq 80 (qn 79), oq 81 (.bin .gtr (tq 80) (ci 0)), oq 82 (qm 81), og 83 (qm 8) 82 true, og 84 (qm 8) 82 true, og 85 (qn 84) 82 true, og 86 (.bin .sub (tq 85) (ci 1)) 82 true, og 87 (qx 2 83 86) 82 true, og 88 (qf 1 87) 82 true, og 89 (ql 88) 82 true, og 90 (qm 7) 82 true, og 91 (qm 9) 82 true, og 92 (qx 1 90 91) 82 true, og 93 (ql 92) 82 true, og 94 (.bin .sub (tq 93) (ci 1)) 82 true, og 95 (.bin .eql (tq 89) (tq 94)) 82 true, oq 96 (.pick (tq 82) (tq 95) (cb false)), oq 97 (qm 96), og 98 (qm 7) 97 true, og 99 (qm 9) 97 true, og 100 (qx 1 98 99) 97 true, og 101 (ql 100) 97 true, og 102 (.bin .gtr (tq 101) (.const (.int .i64 (-9223372036854775808)))) 97 true, oq 103 (.pick (tq 97) (tq 102) (cb false))]) (.cond (tq 103) (.region [oq 104 (qm 8), oq 105 (qm 8), oq 106 (qn 105), oq 107 (.bin .sub (tq 106) (ci 1)), oq 108 (qm 12), oq 109 (qx 2 104 107), oq 110 (qf 1 109), oz (.store 1 (tq 110) (tq 108))]) (.region [oq 111 (qm 8), oq 112 (qm 7), oq 113 (qm 9), oq 114 (qx 1 112 113), oq 115 (ql 114), oq 116 (qm 12), oq 117 (.build [zi, zi] [(0, (1, (tq 115))), (1, (1, (tq 116)))]), oq 118 (.buildSlice false 2 [zi, zi] 1 [(0, (tq 117))]), oq 119 (.appendO 2 16 [zi, zi] (tq 111) (tq 118)), oq 8 (qm 119)]))))))))) (.region [oq 22 (qm 9), oq 23 (.bin .add (tq 22) (ci 1)), oq 9 (qm 23)])))))) (.seq (.region [oq 120 (qm 8), oq 6 (qm 120)]) .ret)))))
theorem c122 : cfn E0.P [(14,8)] Tryz.f122 = some (ac122, [(.tmp 6)], 121) := by kernel_rfl

instance (n : Int) : Decidable (InR n) := by unfold InR; infer_instance
def mkR (lo hi : Int) : Rg := if h : InR lo ∧ InR hi then ⟨lo, hi, h⟩ else ⟨0, 0, by unfold InR; decide⟩
theorem mkR_eq {lo hi : Int} (h1 : InR lo) (h2 : InR hi) : (mkR lo hi).lo = lo ∧ (mkR lo hi).hi = hi := by unfold mkR; rw [dif_pos ⟨h1, h2⟩]; exact ⟨rfl, rfl⟩
def hiP : List Int → Int
  | [] => 9223372036854775807
  | y :: _ => y - 1
def addP (out : List Rg) (x hi : Int) : List Rg := match out.getLast? with
  | some r => bif decide (r.hi = x - 1) then out.dropLast ++ [mkR r.lo hi] else out ++ [mkR x hi]
  | none => [mkR x hi]
def pcs (a : List Rg) : List Int → List Rg → List Rg
  | [], out => out
  | x :: l, out => bif inSet a x then pcs a l (addP out x (hiP l)) else pcs a l out
theorem addP_len (out : List Rg) (x hi : Int) : (addP out x hi).length ≤ out.length + 1 := by
  unfold addP
  split
  · rename_i r _
    cases decide (r.hi = x - 1) <;> simp only [cond_true, cond_false, List.length_append, List.length_dropLast, List.length_singleton] <;> omega
  · simp
def Rise (l : List Int) : Prop := l.head? = some (-9223372036854775808) ∧ l.Pairwise (· < ·) ∧ ∀ x, x ∈ l → InR x
theorem place_mem {n x : Int} : ∀ {l : List Int}, x ∈ placeT n l → x = n ∨ x ∈ l
  | [], h => by simp [placeT] at h; exact .inl h
  | a :: l, h => by
    unfold placeT at h
    split at h
    · rcases List.mem_cons.1 h with rfl | h
      · exact .inr List.mem_cons_self
      · rcases place_mem h with h | h
        · exact .inl h
        · exact .inr (List.mem_cons_of_mem _ h)
    · split at h
      · exact .inr h
      · rcases List.mem_cons.1 h with rfl | h
        · exact .inl rfl
        · exact .inr h
theorem place_rise {n : Int} : ∀ {l : List Int}, l.Pairwise (· < ·) → (placeT n l).Pairwise (· < ·)
  | [], _ => by simp [placeT]
  | a :: l, h => by
    rw [List.pairwise_cons] at h
    unfold placeT
    split
    · rename_i ha
      rw [List.pairwise_cons]
      refine ⟨fun x hx => ?_, place_rise h.2⟩
      rcases place_mem hx with rfl | hx
      · exact ha
      · exact h.1 x hx
    · rename_i ha
      split
      · rw [List.pairwise_cons]; exact h
      · rename_i hb
        rw [List.pairwise_cons, List.pairwise_cons]
        refine ⟨fun x hx => ?_, h⟩
        rcases List.mem_cons.1 hx with rfl | hx
        · omega
        · have := h.1 x hx; omega
theorem Rise.place {n : Int} (hn : InR n) {l : List Int} (h : Rise l) : Rise (placeT n l) := by
  refine ⟨?_, place_rise h.2.1, fun x hx => ?_⟩
  · cases l with
    | nil => simp [Rise] at h
    | cons a l =>
      have ha : a = -9223372036854775808 := by have := h.1; simpa using this
      unfold InR at hn
      unfold placeT
      split
      · simp [ha]
      · split
        · simp [ha]
        · omega
  · rcases place_mem hx with rfl | hx
    · exact hn
    · exact h.2.2 x hx
theorem Rise.starts : ∀ (s : List Rg) {l : List Int}, Rise l → Rise (startsT l s)
  | [], l, h => h
  | x :: s, l, h => by
    show Rise (startsT (startT l x) s)
    refine Rise.starts s ?_
    unfold startT
    have hok := x.ok
    cases h1 : decide (x.lo ≤ x.hi)
    · exact h
    · cases h2 : decide (x.hi < 9223372036854775807)
      · exact h.place hok.1
      · refine (h.place hok.1).place ?_
        rw [decide_eq_true_eq] at h2
        have := hok.2
        unfold InR at this ⊢
        omega
theorem Rise.gt {l : List Int} (h : Rise l) {i : Nat} {x : Int} (hi : 0 < i) (hx : l[i]? = some x) : -9223372036854775808 < x := by
  cases l with
  | nil => simp at hx
  | cons a l =>
    obtain ⟨j, rfl⟩ : ∃ j, i = j + 1 := ⟨i - 1, by omega⟩
    have ha : a = -9223372036854775808 := by have := h.1; simpa using this
    have := (List.pairwise_cons.1 h.2.1).1 x (List.mem_of_getElem? (by simpa using hx))
    omega
def base : List Int := [-9223372036854775808]
theorem rise_base : Rise base := ⟨rfl, by simp [base], fun x hx => by simp [base] at hx; subst hx; unfold InR; decide⟩
def refN (a : List Rg) : List Rg := pcs a (startsT base a) []

set_option maxHeartbeats 4000000 in
theorem of_ev (a : List Rg) (hl : a.length < 2 ^ 38) (h : List AObj) : EvR E0 122 [rgl a, .sl .full [], i64 0] h (rgl (refN a)) := by
  refine Ev.freezeS z2 2 (fit_rgs _) (one_rgs _) (unders_of fun x hx => ?_) rfl ?_
  · simp only [flatC, List.mem_flatMap, List.mem_map] at hx
    obtain ⟨_, ⟨c, _, rfl⟩, hx⟩ := hx
    simp only [rgv, AV.cells, List.mem_cons, List.not_mem_nil, or_false] at hx
    rcases hx with rfl | rfl <;> rfl
  refine ev_of (fn := Tryz.f122) (hs := [(14,8)]) Tryz.func122 c122 (by simp) fun hcl => ?_
  have hs1 := fun h => starts_ev base a (by simp [base]; omega) h
  have hsl := starts_len a base
  have hrise : Rise (startsT base a) := Rise.starts a rise_base
  have hR0 : pcs a (startsT base a) [] = refN a := rfl
  generalize startsT base a = L at *
  generalize refN a = R at *
  have hs2 := fun h => starts_ev L [] (by simp [base] at hsl ⊢; omega) h
  have hs1' : ∀ h, EvR E0 136 [.sl .full [i64 (-9223372036854775808)], rgl a] h (intl L) := fun h => (hs1 h).high (by simp only [lows, AV.low, low_map rgv (fun _ => rfl)]; rfl)
  have hs2' : ∀ h, EvR E0 136 [intl L, .sl .full []] h (intl L) := fun h => (hs2 h).high (by simp only [lows, AV.low, low_ints]; rfl)
  have hh1 := fun n h => rhas_ev a n (by omega) h
  have hh2 : ∀ n h, EvR E0 52 [.sl .full [], i64 n] h (boolv false) := fun n h => (rhas_ev [] n (by simp) h).high rfl
  have hLl : L.length < 2 ^ 40 := by simp [base] at hsl; omega
  simp only [ac122, awH, ↓awD, awP, Nat.reduceLeDiff, Nat.reduceEqDiff, Nat.reduceAdd, Int.reduceLT, Int.reduceLE, Int.reduceEq]
  (refine Need.mk (by simp only [litParts, List.mem_cons, List.not_mem_nil, or_false, forall_eq_or_imp, forall_eq]; refine ⟨by decide, by decide, by decide, ?_⟩; repeat' (first | exact ⟨rfl, rfl, rfl⟩ | rfl | constructor)) ?_; simp only [aw21, awH, ↓awD, awP, Nat.reduceLeDiff, Nat.reduceEqDiff, Nat.reduceAdd, Int.reduceLT, Int.reduceLE, Int.reduceEq])
  ((first | refine EvF.ret (hs1' _) ?_ | refine EvRF.ret (hs1' _) ?_); simp only [aw21, aw21, awH, ↓awD, awP, Nat.reduceLeDiff, Nat.reduceEqDiff, Nat.reduceAdd, Int.reduceLT, Int.reduceLE, Int.reduceEq])
  ((first | refine EvF.ret (hs2' _) ?_ | refine EvRF.ret (hs2' _) ?_); simp only [aw21, aw21, awH, ↓awD, awP, Nat.reduceLeDiff, Nat.reduceEqDiff, Nat.reduceAdd, Int.reduceLT, Int.reduceLE, Int.reduceEq])
  refine LoopF.list L (by omega) (γ := AV × List AObj × List Rg) (fun i g => ⟨[(0, rgl a), (1, .sl .full []), (2, i64 0), (7, intl L), (8, g.1), (9, i64 i)], h ++ g.2.1⟩) (fun i g => SlotOk (h ++ g.2.1) h.length z2 (g.2.2.map rgv) g.1 ∧ pcs a (L.drop i) g.2.2 = R ∧ g.2.2.length ≤ i ∧ (g.2.2 = [] → g.1 = .sl .full [])) (.sl .full [], [], []) ⟨.inl ⟨rfl, rfl⟩, by simpa using hR0, Nat.le_refl _, fun _ => rfl⟩ (weak_of (by simp) (by simp [look])) ?_ ?_
  · rintro i x ⟨o, J, out⟩ hx ⟨hslot, hv, hol, hon0⟩ hi e1 w3
    simp only at hslot hv hol hon0
    have hgx := map_get i64 L i x hx
    rw [drop_get hx] at hv
    simp only [pcs] at hv
    have ho1 := hslot.one
    simp only [e1, ho1, awH, ↓awD, awP, Nat.reduceLeDiff, Nat.reduceEqDiff, Nat.reduceAdd, Int.reduceLT, Int.reduceLE, Int.reduceEq]
    refine Need.mk ⟨by omega, by omega⟩ (Elem.recs hgx ⟨rfl, rfl⟩ ?_)
    simp only [ho1, awH, ↓awD, awP, Nat.reduceLeDiff, Nat.reduceEqDiff, Nat.reduceAdd, Int.reduceLT, Int.reduceLE, Int.reduceEq]
    ((first | refine EvF.ret (hh1 _ _) ?_ | refine EvRF.ret (hh1 _ _) ?_); simp only [ho1, aw21, awH, ↓awD, awP, Nat.reduceLeDiff, Nat.reduceEqDiff, Nat.reduceAdd, Int.reduceLT, Int.reduceLE, Int.reduceEq])
    refine Need.mk ⟨by omega, by omega⟩ (Elem.recs hgx ⟨rfl, rfl⟩ ?_)
    simp only [ho1, awH, ↓awD, awP, Nat.reduceLeDiff, Nat.reduceEqDiff, Nat.reduceAdd, Int.reduceLT, Int.reduceLE, Int.reduceEq]
    ((first | refine EvF.ret (hh2 _ _) ?_ | refine EvRF.ret (hh2 _ _) ?_); simp only [ho1, aw21, awH, ↓awD, awP, Nat.reduceLeDiff, Nat.reduceEqDiff, Nat.reduceAdd, Int.reduceLT, Int.reduceLE, Int.reduceEq])
    cases hin : inSet a x
    · rw [hin] at hv
      simp only [cond_false] at hv
      simp only [hin, w3, ho1, awH, ↓awD, awP, Nat.reduceLeDiff, Nat.reduceEqDiff, Nat.reduceAdd, Int.reduceLT, Int.reduceLE, Int.reduceEq]
      exact ⟨(i + 1, (o, J, out)), ⟨hi, hslot, hv, by simp only; omega, hon0⟩, by simp only; omega, weak_of rfl (by simp [look])⟩
    · rw [hin] at hv
      simp only [cond_true] at hv
      have hxr := hrise.2.2 x (List.mem_of_getElem? hx)
      have hxx := hxr
      unfold InR at hxx
      have hxm : out ≠ [] → -9223372036854775808 < x := fun hne => hrise.gt (i := i) (by cases out with | nil => exact absurd rfl hne | cons _ _ => simp only [List.length_cons] at hol; omega) hx
      have hga : (h ++ J)[h.length + J.length]? = none := by simp
      simp only [hin, w3, ho1, awH, ↓awD, awP, Nat.reduceLeDiff, Nat.reduceEqDiff, Nat.reduceAdd, Int.reduceLT, Int.reduceLE, Int.reduceEq]
      cases hd : decide (((i + 1 : Nat) : Int) < (L.length : Int))
      · have hHI : hiP (L.drop (i + 1)) = 9223372036854775807 := by
          rw [decide_eq_false_iff_not] at hd
          rw [List.drop_eq_nil_of_le (by omega)]; rfl
        rw [hHI] at hv
        have hHr : InR 9223372036854775807 := by unfold InR; decide
        have hmk := mkR_eq hxr hHr
        have hmv : rgv (mkR x 9223372036854775807) = .agg [i64 x, i64 9223372036854775807] := by rw [rgv_eq, hmk.1, hmk.2]
        simp only [hd, w3, ho1, awH, ↓awD, awP, Nat.reduceLeDiff, Nat.reduceEqDiff, Nat.reduceAdd, Int.reduceLT, Int.reduceLE, Int.reduceEq]
        rcases hslot with ⟨rfl, he⟩ | ⟨ido, capo, rfl, q2, q3, q4⟩
        · have hon : out = [] := by simpa using he
          subst hon
          simp only [w3, ho1, awH, ↓awD, awP, Nat.reduceLeDiff, Nat.reduceEqDiff, Nat.reduceAdd, Int.reduceLT, Int.reduceLE, Int.reduceEq]
          refine Need.mk ⟨by omega, by omega⟩ (Elem.recs hgx ⟨rfl, rfl⟩ ?_)
          simp only [w3, ho1, awH, ↓awD, awP, Nat.reduceLeDiff, Nat.reduceEqDiff, Nat.reduceAdd, Int.reduceLT, Int.reduceLE, Int.reduceEq]
          (refine Need.mk (by simp only [litParts, List.mem_cons, List.not_mem_nil, or_false, forall_eq_or_imp, forall_eq]; refine ⟨by decide, by decide, by decide, ?_⟩; repeat' (first | exact ⟨rfl, rfl, rfl⟩ | rfl | constructor)) ?_; simp only [ho1, awH, ↓awD, awP, Nat.reduceLeDiff, Nat.reduceEqDiff, Nat.reduceAdd, Int.reduceLT, Int.reduceLE, Int.reduceEq])
          rw [← hmv]
          refine AppO.use (z := z2) (P := h) (J := J) (lo := h.length) (es := []) rfl rfl (.inl ⟨rfl, rfl⟩) (by decide) rfl (fun e he => by cases he) (fit_rgs [mkR x (9223372036854775807)]) (one_rgs [mkR x (9223372036854775807)]) rfl (strip_rgs [mkR x (9223372036854775807)]) (by simp) (by simp) (by simp) fun J' s' hs' hfr hhe => ?_
          have os' := hs'.one
          simp only [os', w3, awH, ↓awD, awP, Nat.reduceLeDiff, Nat.reduceEqDiff, Nat.reduceAdd, Int.reduceLT, Int.reduceLE, Int.reduceEq]
          exact ⟨(i + 1, (s', J', [mkR x (9223372036854775807)])), ⟨hi, hs', hv, by simp, fun h => by cases h⟩, by simp only; omega, weak_of rfl (by simp [look])⟩
        · obtain ⟨init, b, rfl⟩ : ∃ init b, out = init ++ [b] := by
            rcases List.eq_nil_or_concat out with h | ⟨a, b, h⟩
            · have := hon0 h; cases this
            · exact ⟨a, b, by simpa using h⟩
          have hxm := hxm (by simp)
          have hbm : (init ++ [b]).length = init.length + 1 := by simp
          rw [List.length_map] at q3
          rw [hbm] at q3 hol
          rw [List.length_map, hbm]
          have wk : IntKind.i64.wrap (((init.length + 1 : Nat) : Int) - 1) = ((init.length : Nat) : Int) := by rw [wrap_i64] <;> omega
          have dk : decide ((0 : Int) < ((init.length + 1 : Nat) : Int)) = true := by simp
          have wx : IntKind.i64.wrap (x - 1) = x - 1 := by rw [wrap_i64] <;> omega
          have dx : decide (-9223372036854775808 < x) = true := decide_eq_true hxm
          have hl2 : (dynL z2 ((init ++ [b]).map rgv) capo).length = capo * 2 := dynL_len (fit_rgs _) rfl (by rw [List.length_map, hbm]; exact q3)
          have hc1 : (dynL z2 ((init ++ [b]).map rgv) capo)[init.length * 2 + 1]? = .some (i64 b.hi) := by
            have h0 := dyn_cells (z := z2) (cap := capo) (fit_rgs _) (map_get rgv (init ++ [b]) init.length b (by simp))
            have h1 : (((dynL z2 ((init ++ [b]).map rgv) capo).drop (init.length * 2)).take 2)[1]? = .some (i64 b.hi) := by rw [h0]; rfl
            rw [List.getElem?_take_of_lt (by omega), List.getElem?_drop] at h1
            exact h1
          have hk1 : init.length * 2 + 1 < (dynL z2 ((init ++ [b]).map rgv) capo).length := by rw [hl2]; omega
          have hlt1 := (List.getElem?_eq_some_iff.1 q2).1
          have hadd : addP (init ++ [b]) x (9223372036854775807) = bif decide (b.hi = x - 1) then init ++ [mkR b.lo (9223372036854775807)] else init ++ [b] ++ [mkR x (9223372036854775807)] := by simp [addP]
          rw [hadd] at hv
          simp only [w3, wk, dk, q2, awH, ↓awD, awP, Nat.reduceLeDiff, Nat.reduceEqDiff, Nat.reduceAdd, Int.reduceLT, Int.reduceLE, Int.reduceEq]
          refine Need.mk ⟨by omega, by omega⟩ ?_
          simp only [w3, wk, dk, q2, hc1, wx, Int.toNat_natCast, awH, ↓awD, awP, Nat.reduceLeDiff, Nat.reduceEqDiff, Nat.reduceAdd, Int.reduceLT, Int.reduceLE, Int.reduceEq]
          refine Need.mk ⟨by omega, by omega⟩ (Elem.recs hgx ⟨rfl, rfl⟩ ?_)
          simp only [w3, wk, dk, q2, hc1, wx, Int.toNat_natCast, awH, ↓awD, awP, Nat.reduceLeDiff, Nat.reduceEqDiff, Nat.reduceAdd, Int.reduceLT, Int.reduceLE, Int.reduceEq]
          cases hm : decide (b.hi = x - 1)
          · rw [hm] at hv
            simp only [cond_false] at hv
            simp only [w3, wk, dk, q2, hc1, wx, hm, Int.toNat_natCast, awH, ↓awD, awP, Nat.reduceLeDiff, Nat.reduceEqDiff, Nat.reduceAdd, Int.reduceLT, Int.reduceLE, Int.reduceEq]
            refine Need.mk ⟨by omega, by omega⟩ (Elem.recs hgx ⟨rfl, rfl⟩ ?_)
            simp only [w3, ho1, awH, ↓awD, awP, Nat.reduceLeDiff, Nat.reduceEqDiff, Nat.reduceAdd, Int.reduceLT, Int.reduceLE, Int.reduceEq]
            (refine Need.mk (by simp only [litParts, List.mem_cons, List.not_mem_nil, or_false, forall_eq_or_imp, forall_eq]; refine ⟨by decide, by decide, by decide, ?_⟩; repeat' (first | exact ⟨rfl, rfl, rfl⟩ | rfl | constructor)) ?_; simp only [ho1, awH, ↓awD, awP, Nat.reduceLeDiff, Nat.reduceEqDiff, Nat.reduceAdd, Int.reduceLT, Int.reduceLE, Int.reduceEq])
            rw [← hmv]
            refine AppO.use (z := z2) (P := h) (J := J) (lo := h.length) (es := (init ++ [b]).map rgv) rfl rfl (.inr ⟨ido, capo, by rw [List.length_map, hbm], q2, by rw [List.length_map, hbm]; exact q3, q4⟩) (by decide) rfl (fit_rgs _) (fit_rgs [mkR x (9223372036854775807)]) (one_rgs [mkR x (9223372036854775807)]) (strip_rgs _) (strip_rgs [mkR x (9223372036854775807)]) (by simp; omega) (by simp; omega) (by simp) fun J' s' hs' hfr hhe => ?_
            have os' := hs'.one
            simp only [os', w3, awH, ↓awD, awP, Nat.reduceLeDiff, Nat.reduceEqDiff, Nat.reduceAdd, Int.reduceLT, Int.reduceLE, Int.reduceEq]
            exact ⟨(i + 1, (s', J', init ++ [b] ++ [mkR x (9223372036854775807)])), ⟨hi, by rw [List.map_append]; exact hs', hv, by simp; omega, fun h => by simp at h⟩, by simp only; omega, weak_of rfl (by simp [look])⟩
          · rw [hm] at hv
            simp only [cond_true] at hv
            simp only [w3, wk, dk, q2, hc1, wx, hm, Int.toNat_natCast, awH, ↓awD, awP, Nat.reduceLeDiff, Nat.reduceEqDiff, Nat.reduceAdd, Int.reduceLT, Int.reduceLE, Int.reduceEq]
            refine Need.mk ⟨by omega, by omega⟩ (Elem.recs hgx ⟨rfl, rfl⟩ ?_)
            simp only [w3, wk, dk, dx, q2, hc1, wx, hm, Int.toNat_natCast, awH, ↓awD, awP, Nat.reduceLeDiff, Nat.reduceEqDiff, Nat.reduceAdd, Int.reduceLT, Int.reduceLE, Int.reduceEq]
            refine Need.mk ⟨by omega, by omega⟩ ?_
            simp only [w3, wk, dk, dx, q2, hc1, wx, hm, Int.toNat_natCast, awH, ↓awD, awP, Nat.reduceLeDiff, Nat.reduceEqDiff, Nat.reduceAdd, Int.reduceLT, Int.reduceLE, Int.reduceEq]
            refine Need.mk (by omega) ?_
            have hmb := mkR_eq b.ok.1 hHr
            have hdh := dyn_hi (init := init) (capo := capo) hmb.1
            rw [hmb.2] at hdh
            simp only [w3, awH, ↓awD, awP, Nat.reduceLeDiff, Nat.reduceEqDiff, Nat.reduceAdd, Int.reduceLT, Int.reduceLE, Int.reduceEq]
            refine ⟨(i + 1, (.vw ido 0 (init.length + 1) capo, J.set (ido - h.length) (.cells (dynL z2 ((init ++ [mkR b.lo (9223372036854775807)]).map rgv) capo)), init ++ [mkR b.lo (9223372036854775807)])), ⟨hi, ?_, hv, by simp; omega, fun h => by simp at h⟩, by simp only; omega, weak_of ?_ (by simp [look])⟩
            · simp only
              refine .inr ⟨ido, capo, by simp, ?_, by simpa using q3, q4⟩
              rw [← List.set_append_right _ _ q4, List.getElem?_set_self (by rw [List.length_append]; rw [List.length_append] at hlt1; exact hlt1)]
            · simp only
              rw [← List.set_append_right _ _ q4, ← hdh]
      · have hil : i + 1 < L.length := by rw [decide_eq_true_eq] at hd; omega
        obtain ⟨y, hy⟩ : ∃ y, L[i + 1]? = some y := ⟨_, List.getElem?_eq_getElem hil⟩
        have hHI : hiP (L.drop (i + 1)) = y - 1 := by rw [drop_get hy]; rfl
        rw [hHI] at hv
        have hgy := map_get i64 L (i + 1) y hy
        have hyr := hrise.2.2 y (List.mem_of_getElem? hy)
        have hym := hrise.gt (i := i + 1) (by omega) hy
        have hyy := hyr
        unfold InR at hyy
        have hHr : InR (y - 1) := by unfold InR; omega
        have wy : IntKind.i64.wrap (y - 1) = y - 1 := by rw [wrap_i64] <;> omega
        have hmk := mkR_eq hxr hHr
        have hmv : rgv (mkR x (y - 1)) = .agg [i64 x, i64 (y - 1)] := by rw [rgv_eq, hmk.1, hmk.2]
        simp only [hd, w3, ho1, awH, ↓awD, awP, Nat.reduceLeDiff, Nat.reduceEqDiff, Nat.reduceAdd, Int.reduceLT, Int.reduceLE, Int.reduceEq]
        refine Need.mk ⟨by omega, by omega⟩ (Elem.recs hgy ⟨rfl, rfl⟩ ?_)
        simp only [wy, ho1, awH, ↓awD, awP, Nat.reduceLeDiff, Nat.reduceEqDiff, Nat.reduceAdd, Int.reduceLT, Int.reduceLE, Int.reduceEq]
        rcases hslot with ⟨rfl, he⟩ | ⟨ido, capo, rfl, q2, q3, q4⟩
        · have hon : out = [] := by simpa using he
          subst hon
          simp only [w3, ho1, awH, ↓awD, awP, Nat.reduceLeDiff, Nat.reduceEqDiff, Nat.reduceAdd, Int.reduceLT, Int.reduceLE, Int.reduceEq]
          refine Need.mk ⟨by omega, by omega⟩ (Elem.recs hgx ⟨rfl, rfl⟩ ?_)
          simp only [w3, ho1, awH, ↓awD, awP, Nat.reduceLeDiff, Nat.reduceEqDiff, Nat.reduceAdd, Int.reduceLT, Int.reduceLE, Int.reduceEq]
          (refine Need.mk (by simp only [litParts, List.mem_cons, List.not_mem_nil, or_false, forall_eq_or_imp, forall_eq]; refine ⟨by decide, by decide, by decide, ?_⟩; repeat' (first | exact ⟨rfl, rfl, rfl⟩ | rfl | constructor)) ?_; simp only [ho1, awH, ↓awD, awP, Nat.reduceLeDiff, Nat.reduceEqDiff, Nat.reduceAdd, Int.reduceLT, Int.reduceLE, Int.reduceEq])
          rw [← hmv]
          refine AppO.use (z := z2) (P := h) (J := J) (lo := h.length) (es := []) rfl rfl (.inl ⟨rfl, rfl⟩) (by decide) rfl (fun e he => by cases he) (fit_rgs [mkR x (y - 1)]) (one_rgs [mkR x (y - 1)]) rfl (strip_rgs [mkR x (y - 1)]) (by simp) (by simp) (by simp) fun J' s' hs' hfr hhe => ?_
          have os' := hs'.one
          simp only [os', w3, awH, ↓awD, awP, Nat.reduceLeDiff, Nat.reduceEqDiff, Nat.reduceAdd, Int.reduceLT, Int.reduceLE, Int.reduceEq]
          exact ⟨(i + 1, (s', J', [mkR x (y - 1)])), ⟨hi, hs', hv, by simp, fun h => by cases h⟩, by simp only; omega, weak_of rfl (by simp [look])⟩
        · obtain ⟨init, b, rfl⟩ : ∃ init b, out = init ++ [b] := by
            rcases List.eq_nil_or_concat out with h | ⟨a, b, h⟩
            · have := hon0 h; cases this
            · exact ⟨a, b, by simpa using h⟩
          have hxm := hxm (by simp)
          have hbm : (init ++ [b]).length = init.length + 1 := by simp
          rw [List.length_map] at q3
          rw [hbm] at q3 hol
          rw [List.length_map, hbm]
          have wk : IntKind.i64.wrap (((init.length + 1 : Nat) : Int) - 1) = ((init.length : Nat) : Int) := by rw [wrap_i64] <;> omega
          have dk : decide ((0 : Int) < ((init.length + 1 : Nat) : Int)) = true := by simp
          have wx : IntKind.i64.wrap (x - 1) = x - 1 := by rw [wrap_i64] <;> omega
          have dx : decide (-9223372036854775808 < x) = true := decide_eq_true hxm
          have hl2 : (dynL z2 ((init ++ [b]).map rgv) capo).length = capo * 2 := dynL_len (fit_rgs _) rfl (by rw [List.length_map, hbm]; exact q3)
          have hc1 : (dynL z2 ((init ++ [b]).map rgv) capo)[init.length * 2 + 1]? = .some (i64 b.hi) := by
            have h0 := dyn_cells (z := z2) (cap := capo) (fit_rgs _) (map_get rgv (init ++ [b]) init.length b (by simp))
            have h1 : (((dynL z2 ((init ++ [b]).map rgv) capo).drop (init.length * 2)).take 2)[1]? = .some (i64 b.hi) := by rw [h0]; rfl
            rw [List.getElem?_take_of_lt (by omega), List.getElem?_drop] at h1
            exact h1
          have hk1 : init.length * 2 + 1 < (dynL z2 ((init ++ [b]).map rgv) capo).length := by rw [hl2]; omega
          have hlt1 := (List.getElem?_eq_some_iff.1 q2).1
          have hadd : addP (init ++ [b]) x (y - 1) = bif decide (b.hi = x - 1) then init ++ [mkR b.lo (y - 1)] else init ++ [b] ++ [mkR x (y - 1)] := by simp [addP]
          rw [hadd] at hv
          simp only [w3, wk, dk, q2, awH, ↓awD, awP, Nat.reduceLeDiff, Nat.reduceEqDiff, Nat.reduceAdd, Int.reduceLT, Int.reduceLE, Int.reduceEq]
          refine Need.mk ⟨by omega, by omega⟩ ?_
          simp only [w3, wk, dk, q2, hc1, wx, Int.toNat_natCast, awH, ↓awD, awP, Nat.reduceLeDiff, Nat.reduceEqDiff, Nat.reduceAdd, Int.reduceLT, Int.reduceLE, Int.reduceEq]
          refine Need.mk ⟨by omega, by omega⟩ (Elem.recs hgx ⟨rfl, rfl⟩ ?_)
          simp only [w3, wk, dk, q2, hc1, wx, Int.toNat_natCast, awH, ↓awD, awP, Nat.reduceLeDiff, Nat.reduceEqDiff, Nat.reduceAdd, Int.reduceLT, Int.reduceLE, Int.reduceEq]
          cases hm : decide (b.hi = x - 1)
          · rw [hm] at hv
            simp only [cond_false] at hv
            simp only [w3, wk, dk, q2, hc1, wx, hm, Int.toNat_natCast, awH, ↓awD, awP, Nat.reduceLeDiff, Nat.reduceEqDiff, Nat.reduceAdd, Int.reduceLT, Int.reduceLE, Int.reduceEq]
            refine Need.mk ⟨by omega, by omega⟩ (Elem.recs hgx ⟨rfl, rfl⟩ ?_)
            simp only [w3, ho1, awH, ↓awD, awP, Nat.reduceLeDiff, Nat.reduceEqDiff, Nat.reduceAdd, Int.reduceLT, Int.reduceLE, Int.reduceEq]
            (refine Need.mk (by simp only [litParts, List.mem_cons, List.not_mem_nil, or_false, forall_eq_or_imp, forall_eq]; refine ⟨by decide, by decide, by decide, ?_⟩; repeat' (first | exact ⟨rfl, rfl, rfl⟩ | rfl | constructor)) ?_; simp only [ho1, awH, ↓awD, awP, Nat.reduceLeDiff, Nat.reduceEqDiff, Nat.reduceAdd, Int.reduceLT, Int.reduceLE, Int.reduceEq])
            rw [← hmv]
            refine AppO.use (z := z2) (P := h) (J := J) (lo := h.length) (es := (init ++ [b]).map rgv) rfl rfl (.inr ⟨ido, capo, by rw [List.length_map, hbm], q2, by rw [List.length_map, hbm]; exact q3, q4⟩) (by decide) rfl (fit_rgs _) (fit_rgs [mkR x (y - 1)]) (one_rgs [mkR x (y - 1)]) (strip_rgs _) (strip_rgs [mkR x (y - 1)]) (by simp; omega) (by simp; omega) (by simp) fun J' s' hs' hfr hhe => ?_
            have os' := hs'.one
            simp only [os', w3, awH, ↓awD, awP, Nat.reduceLeDiff, Nat.reduceEqDiff, Nat.reduceAdd, Int.reduceLT, Int.reduceLE, Int.reduceEq]
            exact ⟨(i + 1, (s', J', init ++ [b] ++ [mkR x (y - 1)])), ⟨hi, by rw [List.map_append]; exact hs', hv, by simp; omega, fun h => by simp at h⟩, by simp only; omega, weak_of rfl (by simp [look])⟩
          · rw [hm] at hv
            simp only [cond_true] at hv
            simp only [w3, wk, dk, q2, hc1, wx, hm, Int.toNat_natCast, awH, ↓awD, awP, Nat.reduceLeDiff, Nat.reduceEqDiff, Nat.reduceAdd, Int.reduceLT, Int.reduceLE, Int.reduceEq]
            refine Need.mk ⟨by omega, by omega⟩ (Elem.recs hgx ⟨rfl, rfl⟩ ?_)
            simp only [w3, wk, dk, dx, q2, hc1, wx, hm, Int.toNat_natCast, awH, ↓awD, awP, Nat.reduceLeDiff, Nat.reduceEqDiff, Nat.reduceAdd, Int.reduceLT, Int.reduceLE, Int.reduceEq]
            refine Need.mk ⟨by omega, by omega⟩ ?_
            simp only [w3, wk, dk, dx, q2, hc1, wx, hm, Int.toNat_natCast, awH, ↓awD, awP, Nat.reduceLeDiff, Nat.reduceEqDiff, Nat.reduceAdd, Int.reduceLT, Int.reduceLE, Int.reduceEq]
            refine Need.mk (by omega) ?_
            have hmb := mkR_eq b.ok.1 hHr
            have hdh := dyn_hi (init := init) (capo := capo) hmb.1
            rw [hmb.2] at hdh
            simp only [w3, awH, ↓awD, awP, Nat.reduceLeDiff, Nat.reduceEqDiff, Nat.reduceAdd, Int.reduceLT, Int.reduceLE, Int.reduceEq]
            refine ⟨(i + 1, (.vw ido 0 (init.length + 1) capo, J.set (ido - h.length) (.cells (dynL z2 ((init ++ [mkR b.lo (y - 1)]).map rgv) capo)), init ++ [mkR b.lo (y - 1)])), ⟨hi, ?_, hv, by simp; omega, fun h => by simp at h⟩, by simp only; omega, weak_of ?_ (by simp [look])⟩
            · simp only
              refine .inr ⟨ido, capo, by simp, ?_, by simpa using q3, q4⟩
              rw [← List.set_append_right _ _ q4, List.getElem?_set_self (by rw [List.length_append]; rw [List.length_append] at hlt1; exact hlt1)]
            · simp only
              rw [← List.set_append_right _ _ q4, ← hdh]
  · rintro ⟨o, J, out⟩ ⟨hslot, hv, hol, hon0⟩ e1
    simp only at hslot hv hol hon0
    rw [drop_len] at hv
    simp only [pcs] at hv
    subst hv
    have ho1 := hslot.one
    simp only [e1, ho1, awH, ↓awD, awP, Nat.reduceLeDiff, Nat.reduceEqDiff, Nat.reduceAdd, Int.reduceLT, Int.reduceLE, Int.reduceEq]
    exact Fin.all (by rw [List.length_append]; omega) ⟨hcl, o, J, rfl, rfl, hslot⟩
end Go.Abs.Fr
