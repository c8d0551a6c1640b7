/- Values of tables' types: a value with all defaults. -/
import Derived.Test.YtloimemacnjpgaaGreatS15M1
import Derived.Test.YtloimemacnjpgaaGreatAbsFz2
import Derived.Test.YtloimemacnjpgaaGreatS15Tb1
set_option linter.all false
namespace Go.Abs.Fr
open Go Go.Abs Go.Proofs
set_option linter.unusedSimpArgs false
set_option maxRecDepth 100000

def ac19 : ACode := (.seq (.region [oq 2 (.box (tq 0)), oq 3 (.box (tq 1)), oq 4 (.alloc [zi, zi, zs, zn, zn])]) (.seq (.region [oq 14 (qf 0 3), oq 15 (ql 14), oq 16 (qf 1 3), oq 17 (ql 16), oq 18 (qf 2 3), oq 19 (ql 18), oq 20 (.build [zi, zi, zs, zn, zn] [(0, (1, (tq 15))), (1, (1, (tq 17))), (2, (1, (tq 19)))]), oq 5 (.alloc [zi, zi, zs, zn, zn]), oz (.store 5 (tq 5) (tq 20))]) (.seq (.seq (.region [oq 21 (qf 0 3), oq 22 (ql 21)]) (.block 0 (.seq (.region [oq 24 (.bin .eql (tq 22) (ci 8)), oq 23 (qm 24)]) (.cond (tq 23) (.seq (.region [oq 25 (qs 3 2), oq 26 (.call (.func 29) [((tq 25), false)]), oq 27 (qn 26), oq 28 (.move (ci 0))]) (.block 1 (.loop (.seq (.region [oq 29 (.bin .lss (tq 28) (tq 27))]) (.seq (.cond (tq 29) .skip (.exit 1)) (.seq (.block 2 (.seq (.region [oq 30 (qx 4 26 28), oq 31 (qs 4 30), oq 7 (.alloc [zs, zi, zb, zn]), oz (.store 4 (tq 7) (tq 31))]) (.seq (.region [oq 32 (qf 3 7), oq 33 (ql 32), oq 8 (qm 33)]) (.seq (.seq (.region [oq 34 (qf 3 3), oq 35 (ql 34), oq 36 (qf 0 7), oq 37 (ql 36), oq 38 (.call (.func 32) [((tq 35), false), ((tq 37), false)]), oq 9 (qm 38)]) (.seq (.region [oq 39 (qm 9), oq 40 (.bin .geq (tq 39) (ci 0))]) (.cond (tq 40) (.region [oq 41 (qf 4 3), oq 42 (ql 41), oq 43 (qm 9), oq 44 (qm 9), oq 45 (.bin .add (tq 44) (ci 1)), oq 46 (.slice 5 (tq 42) (some (tq 43)) (some (tq 45))), oq 8 (qm 46)]) .skip))) (.seq (.region [oq 47 (qm 8), oq 48 (qn 47), oq 49 (.bin .gtr (tq 48) (ci 0))]) (.cond (tq 49) (.seq (.eff [oq 50 (qf 3 5), oq 51 (ql 50), oq 52 (qf 0 7), oq 53 (ql 52), oq 54 (.buildSlice false 1 [zs] 1 [(0, (tq 53))]), oq 55 (.appendO 1 16 [zs] (tq 51) (tq 54)), oq 56 (qf 4 5), oq 57 (ql 56), oq 58 (qs 3 2), oq 59 (qf 1 7), oq 60 (ql 59), oq 61 (.call (.func 33) [((tq 58), false), ((tq 60), false)]), oq 62 (qm 8), oq 63 (.indexAddr 5 (tq 62) (ci 0)), oq 64 (qs 5 63), oq 65 (.call (.func 19) [((tq 61), false), ((tq 64), false)]), oq 66 (.buildSlice false 5 [zi, zi, zs, zn, zn] 1 [(0, (tq 65))]), oq 67 (.appendO 5 80 [zi, zi, zs, zn, zn] (tq 57) (tq 66)), oq 68 (qf 3 5)] [false, false, false, false, false, true, false, false, false, false, false, false, false, false, false, false, false, true, false]) (.region [oz (.store 1 (tq 68) (tq 55)), oq 69 (qf 4 5), oz (.store 1 (tq 69) (tq 67))])) .skip)))))) (.region [oq 70 (.bin .add (tq 28) (ci 1)), oq 28 (qm 70)]))))))) (.seq (.region [oq 72 (.bin .eql (tq 22) (ci 10)), oq 71 (qm 72)]) (.cond (tq 71) (.seq (.region [oq 73 (qs 3 2), oq 74 (.call (.func 29) [((tq 73), false)]), oq 75 (qn 74), oq 76 (.move (ci 0))]) (.block 3 (.loop (.seq (.region [oq 77 (.bin .lss (tq 76) (tq 75))]) (.seq (.cond (tq 77) .skip (.exit 3)) (.seq (.block 4 (.seq (.region [oq 78 (qx 4 74 76), oq 79 (qs 4 78), oq 11 (.alloc [zs, zi, zb, zn]), oz (.store 4 (tq 11) (tq 79))]) (.seq (.region [oq 80 (qf 0 11), oq 81 (ql 80), oq 82 (qf 2 3), oq 83 (ql 82), oq 84 (.bin .eql (tq 81) (tq 83))]) (.cond (tq 84) (.seq (.draw [oq 85 (qs 3 2), oq 86 (qf 1 11), oq 87 (ql 86), oq 88 (.call (.func 33) [((tq 85), false), ((tq 87), false)]), oq 89 (qf 4 3), oq 90 (ql 89), oq 91 (.indexAddr 5 (tq 90) (ci 0)), oq 92 (qs 5 91), oq 93 (.call (.func 19) [((tq 88), false), ((tq 92), false)]), oq 94 (.buildSlice false 5 [zi, zi, zs, zn, zn] 1 [(0, (tq 93))])]) (.region [oq 95 (qf 4 5), oz (.store 1 (tq 95) (tq 94))])) .skip)))) (.region [oq 96 (.bin .add (tq 76) (ci 1)), oq 76 (qm 96)]))))))) (.seq (.region [oq 98 (.bin .eql (tq 22) (ci 9)), oq 97 (qm 98)]) (.cond (tq 97) (.seq (.region [oq 99 (qf 4 3), oq 100 (ql 99), oq 101 (qn 100), oq 102 (.move (ci 0))]) (.block 5 (.loop (.seq (.region [oq 103 (.bin .lss (tq 102) (tq 101))]) (.seq (.cond (tq 103) .skip (.exit 5)) (.seq (.block 6 (.seq (.region [oq 104 (qx 5 100 102), oq 105 (qs 5 104), oq 13 (.alloc [zi, zi, zs, zn, zn]), oz (.store 5 (tq 13) (tq 105))]) (.seq (.draw [oq 106 (qf 4 5), oq 107 (ql 106), oq 108 (qs 3 2), oq 109 (qs 3 2), oq 110 (.call (.func 34) [((tq 109), false)]), oq 111 (.field 11 none (tq 110)), oq 112 (.call (.func 33) [((tq 108), false), ((tq 111), false)]), oq 113 (qs 5 13), oq 114 (.call (.func 19) [((tq 112), false), ((tq 113), false)]), oq 115 (.buildSlice false 5 [zi, zi, zs, zn, zn] 1 [(0, (tq 114))])]) (.region [oq 116 (.appendO 5 80 [zi, zi, zs, zn, zn] (tq 107) (tq 115)), oq 117 (qf 4 5), oz (.store 1 (tq 117) (tq 116))])))) (.region [oq 118 (.bin .add (tq 102) (ci 1)), oq 102 (qm 118)]))))))) .skip)))))))) (.seq (.region [oq 119 (qs 5 5), oz (.store 5 (tq 4) (tq 119))]) .ret))))
theorem c19 : cfn E0.P [(12,1038),(12,5),(12,505),(12,17),(12,517),(19,1020),(25,1020),(25,10)] Tryz.f19 = some (ac19, [(.cell 4 (some 5))], 120) := by kernel_rfl

theorem get_mid (H J : List AObj) (o : AObj) : (H ++ [o] ++ J)[H.length]? = some o := by simp
theorem set_mid (H J : List AObj) (o o' : AObj) : (H ++ [o] ++ J).set H.length o' = H ++ [o'] ++ J := by simp
theorem get_mid1 (H J : List AObj) (o x : AObj) : (H ++ [o] ++ J ++ [x])[H.length]? = some o := by simp
theorem set_mid1 (H J : List AObj) (o o' x : AObj) : (H ++ [o] ++ J ++ [x]).set H.length o' = H ++ [o'] ++ J ++ [x] := by simp

theorem get_lo (G J : List AObj) (x o : AObj) : (G ++ [x] ++ [o] ++ J)[G.length]? = some x := by simp
theorem sure_valv (l : List Val) (e : AV) (he : e ∈ l.map valv) : e.sure = true ∧ e.cells.length = 5 := by
  obtain ⟨z, _, rfl⟩ := List.mem_map.1 he
  rw [valv_eq]
  exact ⟨rfl, rfl⟩
def z1 : List AV := [.lit (.string ⟨#[]⟩)]
def z5 : List AV := [.lit (.int .i64 0), .lit (.int .i64 0), .lit (.string ⟨#[]⟩), .sl .full [], .sl .full []]
def pick (v : Val) (f : Fld) : Option Val :=
  if 0 ≤ idx (fun x => decide (f.name = x)) v.names 0 then v.l[(idx (fun x => decide (f.name = x)) v.names 0).toNat]? else f.dfl.head?
def canN (v : Val) (fs : List Fld) : List ByteArray := fs.filterMap fun f => (pick v f).map fun _ => f.name
def canL (B : Int → Val → Val) (v : Val) (fs : List Fld) : List Val := fs.filterMap fun f => (pick v f).map (B f.t)
theorem canN_len (v : Val) (fs : List Fld) : (canN v fs).length ≤ fs.length := List.length_filterMap_le ..
theorem canL_len (B : Int → Val → Val) (v : Val) (fs : List Fld) : (canL B v fs).length ≤ fs.length := List.length_filterMap_le ..
theorem canN_succ {v : Val} {fs : List Fld} {i : Nat} {f : Fld} {y : Val} (ha : fs[i]? = some f) (hp : pick v f = some y) : canN v (fs.take (i + 1)) = canN v (fs.take i) ++ [f.name] := by
  rw [canN, List.take_add_one, ha, List.filterMap_append]; simp [canN, hp]
theorem canL_succ {v : Val} (B : Int → Val → Val) {fs : List Fld} {i : Nat} {f : Fld} {y : Val} (ha : fs[i]? = some f) (hp : pick v f = some y) : canL B v (fs.take (i + 1)) = canL B v (fs.take i) ++ [B f.t y] := by
  rw [canL, List.take_add_one, ha, List.filterMap_append]; simp [canL, hp]
theorem canN_skip {v : Val} {fs : List Fld} {i : Nat} {f : Fld} (ha : fs[i]? = some f) (hp : pick v f = none) : canN v (fs.take (i + 1)) = canN v (fs.take i) := by
  rw [canN, List.take_add_one, ha, List.filterMap_append]; simp [canN, hp]
theorem canL_skip {v : Val} (B : Int → Val → Val) {fs : List Fld} {i : Nat} {f : Fld} (ha : fs[i]? = some f) (hp : pick v f = none) : canL B v (fs.take (i + 1)) = canL B v (fs.take i) := by
  rw [canL, List.take_add_one, ha, List.filterMap_append]; simp [canL, hp]
def canC (B : Int → Val → Val) (v : Val) (fs : List Fld) : List Val := match (fs.reverse.find? fun f => decide (f.name = v.s)), v.l.head? with | some f, some x => [B f.t x] | _, _ => []
def canF (B : Int → Val → Val) (r : Dsc) (v : Val) : Val :=
  bif decide (v.kind = 8) then .mk v.kind v.n v.s (canN v r.fields) (canL B v r.fields) v.ok
  else bif decide (v.kind = 10) then .mk v.kind v.n v.s [] (canC B v r.fields) v.ok
  else bif decide (v.kind = 9) then .mk v.kind v.n v.s [] (v.l.map (B r.elem)) v.ok
  else .mk v.kind v.n v.s [] [] v.ok

theorem SlotOk.lower {h : List AObj} {lo lo' : Nat} {z es : List AV} {s : AV} (hs : SlotOk h lo z es s) (hl : lo' ≤ lo) : SlotOk h lo' z es s := by
  rcases hs with ⟨h1, h2⟩ | ⟨id, cap, h1, h2, h3, h4⟩
  · exact .inl ⟨h1, h2⟩
  · exact .inr ⟨id, cap, h1, h2, h3, Nat.le_trans hl h4⟩
theorem canC_succ {v : Val} (B : Int → Val → Val) {fs : List Fld} {i : Nat} {f : Fld} {y : Val} (ha : fs[i]? = some f) (hn : f.name = v.s) (hl : v.l.head? = some y) : canC B v (fs.take (i + 1)) = [B f.t y] := by
  rw [canC, List.take_add_one, ha]; simp [hn, hl]
theorem canC_skip {v : Val} (B : Int → Val → Val) {fs : List Fld} {i : Nat} {f : Fld} (ha : fs[i]? = some f) (hn : ¬ f.name = v.s) : canC B v (fs.take (i + 1)) = canC B v (fs.take i) := by
  rw [canC, List.take_add_one, ha]; simp [canC, hn]
theorem apart_full {c : Cap} {es : List AV} {s : AV} : Apart (.sl c es) s := fun i a b a' b' h => by cases h
theorem slot_ne {h : List AObj} {lo : Nat} {z es : List AV} {s : AV} (hs : SlotOk h lo z es s) (a b : Nat) : s ≠ .vw h.length 0 a b := fun e => by rw [e] at hs; exact absurd hs.lt (Nat.lt_irrefl _)
def RecP (h : List AObj) (u : Val) (r : ARes) (h' : List AObj) : Prop := ∃ sN sL J, r = .ret (.agg [i64 u.kind, i64 u.n, str u.s, sN, sL]) ∧ h' = h ++ J ∧ (SlotOk h' h.length z1 (u.names.map str) sN ∨ ∃ c, sN = .sl c (u.names.map str)) ∧
  (SlotOk h' h.length z5 (u.l.map valv) sL ∨ ∃ c, sL = .sl c (u.l.map valv)) ∧ Apart sN sL
theorem fit_strs (l : List ByteArray) : Fit 1 (l.map str) := by
  intro e he; obtain ⟨c, _, rfl⟩ := List.mem_map.1 he; exact ⟨rfl, rfl⟩
theorem fit_str (s : ByteArray) : Fit 1 [str s] := fit_strs [s]
theorem one_strs (l : List ByteArray) : allOne (l.map str) := by
  intro e he; obtain ⟨c, _, rfl⟩ := List.mem_map.1 he; rfl
theorem one_str (s : ByteArray) : allOne [str s] := by
  intro e he; rw [List.mem_singleton.1 he]; rfl
theorem flat_strs (l : List ByteArray) : flatC (l.map str) = l.map str := by
  induction l with
  | nil => rfl
  | cons a l ih => show [str a] ++ flatC (l.map str) = _; rw [ih]; rfl
theorem strip_strs (l : List ByteArray) : (flatC (l.map str)).map AV.strip = flatC (l.map str) := by
  rw [flat_strs, List.map_map]; rfl
theorem fit_vals (l : List Val) : Fit 5 (l.map valv) := by
  intro e he; obtain ⟨c, _, rfl⟩ := List.mem_map.1 he; rw [valv_eq]; exact ⟨rfl, rfl⟩
theorem one_vals (l : List Val) : allOne (l.map valv) := by
  intro e he; obtain ⟨c, _, rfl⟩ := List.mem_map.1 he; rw [valv_eq]; rfl
theorem strip_vals (l : List Val) : (flatC (l.map valv)).map AV.strip = flatC (l.map valv) := by
  induction l with
  | nil => rfl
  | cons a l ih => show ((valv a).cells ++ flatC (l.map valv)).map AV.strip = (valv a).cells ++ flatC (l.map valv); rw [List.map_append, ih, valv_eq]; rfl

theorem fit_val (x : Val) : Fit 5 [.agg [i64 x.kind, i64 x.n, str x.s, strl x.names, vall x.l]] := by rw [← valv_eq]; exact fit_vals [x]
theorem one_val (x : Val) : allOne [.agg [i64 x.kind, i64 x.n, str x.s, strl x.names, vall x.l]] := by rw [← valv_eq]; exact one_vals [x]
theorem strip_val (x : Val) : (flatC [.agg [i64 x.kind, i64 x.n, str x.s, strl x.names, vall x.l]]).map AV.strip = flatC [.agg [i64 x.kind, i64 x.n, str x.s, strl x.names, vall x.l]] := by rw [← valv_eq]; exact strip_vals [x]
set_option maxHeartbeats 8000000 in
theorem canon_raw (d : List Dsc) (n : Nat) (r : Dsc) (room : Nat) (hroom : room ≤ 40) (v : Val) (B : Int → Val → Val) (hr : d[n]? = some r) (hm : BD (2 ^ 30) r) (hv : mxV v ≤ 2 ^ 48) (hvl : v.l.length ≤ 2 ^ 40)
    (h8 : v.kind = 8 → v.names.length = v.l.length) (h10 : v.kind = 10 → ∀ f, f ∈ r.fields → f.name = v.s → v.l ≠ []) (hpt : parted v.kind → 0 < room)
    (hB8 : v.kind = 8 → ∀ f, f ∈ r.fields → ∀ x, pick v f = some x → ∀ h, EvR E0 19 [rowv d f.t ((room - 1 : Nat) : Int), valv x] h (valv (B f.t x)))
    (hB10 : v.kind = 10 → ∀ f, f ∈ r.fields → f.name = v.s → ∀ x, v.l.head? = some x → ∀ h, EvR E0 19 [rowv d f.t ((room - 1 : Nat) : Int), valv x] h (valv (B f.t x)))
    (hB9 : v.kind = 9 → ∀ x, x ∈ v.l → ∀ h, EvR E0 19 [rowv d r.elem ((room - 1 : Nat) : Int), valv x] h (valv (B r.elem x))) (h : List AObj) :
    Ev E0 19 [rowv d n room, valv v] h (RecP h (canF B r v)) := by
  refine ev_of (fn := Tryz.f19) (hs := [(12,1038),(12,5),(12,505),(12,17),(12,517),(19,1020),(25,1020),(25,10)]) Tryz.func19 c19 (by simp) fun hcl => ?_
  have hV := mxV_le v
  have l1 := mxB_len v.names
  have l3 := mxVs_len v.l
  have hfl : r.parts.length + r.adds.length ≤ 2 ^ 40 := by have := hm.2.2.2.2.1; have := hm.2.2.2.2.2.1; omega
  have hf := fun h => fields_ev d n r (room : Int) hr hfl h
  have hfl2 : r.fields.length < 2 ^ 60 := by simp only [Dsc.fields, List.length_append]; omega
  have ho := fun h => own_ev d n r (room : Int) hr h
  have hbl := fun (hp : parted v.kind = true) m h => below_ev d n (room : Int) m (by constructor <;> omega) h
  have hro : parted v.kind = true → ((room : Nat) : Int) - 1 = ((room - 1 : Nat) : Int) := fun hp => by have := hpt hp; omega
  simp only [dscv_eq] at ho
  simp only [ac19, valv_eq, awH, ↓awD, awP, Nat.reduceLeDiff, Nat.reduceEqDiff, Nat.reduceAdd, Int.reduceLT, Int.reduceLE, Int.reduceEq]
  generalize hR0 : AObj.cells [dscl d, i64 n, i64 room] = oR
  generalize hV0 : AObj.cells [i64 v.kind, i64 v.n, str v.s, strl v.names, vall v.l] = oV
  generalize hS0 : AObj.cells [i64 0, i64 0, str ⟨#[]⟩, .sl .full [], .sl .full []] = oS
  generalize hHd : h ++ [oR] ++ [oV] = G
  have g0 : G[h.length]? = some oR := by rw [← hHd]; exact geta _ _ _
  have g1 : G[(h ++ [oR]).length]? = some oV := by rw [← hHd]; simp
  generalize (h ++ [oR]).length = i1 at g1 ⊢
  subst hR0 hV0
  have g0' := fun o J => app_get (app_get (app_get g0 [oS]) [o]) J
  have g1' := fun o J => app_get (app_get (app_get g1 [oS]) [o]) J
  have g0x := fun o J (x : AObj) => app_get (g0' o J) [x]
  have g1x := fun o J (x : AObj) => app_get (g1' o J) [x]
  have g2' : ∀ o J, (G ++ [oS] ++ [o] ++ J)[G.length]? = some (AObj.cells [i64 0, i64 0, str ⟨#[]⟩, .sl .full [], .sl .full []]) := fun o J => by rw [hS0]; simp
  have gs2' : ∀ o J (x : AObj), (G ++ [oS] ++ [o] ++ J).set G.length x = G ++ [x] ++ [o] ++ J := fun o J x => by simp
  refine BrF.mk (fun hk8 => ?_) (fun hk8 => ?_)
  · rw [decide_eq_true_eq] at hk8
    have hpa : parted v.kind = true := by simp [parted, hk8]
    have hbl := hbl hpa
    have hl := h8 hk8
    have hB8 := hB8 hk8
    rw [hro hpa] at hbl
    have g2 := app_get (app_get g0 [oS])
    simp only [g0', g1', app_get (app_get g0 [oS]) _, awH, ↓awD, awP, Nat.reduceLeDiff, Nat.reduceEqDiff, Nat.reduceAdd, Int.reduceLT, Int.reduceLE, Int.reduceEq]
    ((first | refine EvF.ret (hf _) ?_ | refine EvRF.ret (hf _) ?_); simp only [g0, aw21, awH, ↓awD, awP, Nat.reduceLeDiff, Nat.reduceEqDiff, Nat.reduceAdd, Int.reduceLT, Int.reduceLE, Int.reduceEq])
    refine LoopF.list r.fields hfl2 (γ := AV × AV × List AObj) (fun i g => ⟨[(2, .ref h.length 0), (3, .ref i1 0), (4, .ref G.length 0), (5, .ref (G ++ [oS]).length 0), (26, fldl r.fields), (27, i64 r.fields.length), (28, i64 i)], G ++ [oS] ++ [.cells [i64 v.kind, i64 v.n, str v.s, g.1, g.2.1]] ++ g.2.2⟩)
      (fun i g => SlotOk (G ++ [oS] ++ [.cells [i64 v.kind, i64 v.n, str v.s, g.1, g.2.1]] ++ g.2.2) (G.length + 2) z1 ((canN v (r.fields.take i)).map str) g.1 ∧ SlotOk (G ++ [oS] ++ [.cells [i64 v.kind, i64 v.n, str v.s, g.1, g.2.1]] ++ g.2.2) (G.length + 2) z5 ((canL B v (r.fields.take i)).map valv) g.2.1 ∧ Apart g.1 g.2.1)
      (.sl .full [], .sl .full [], []) ⟨.inl ⟨rfl, rfl⟩, .inl ⟨rfl, rfl⟩, fun _ _ _ _ _ h => by cases h⟩ (weak_of (by simp [canN, canL]) (by simp [look])) ?_ ?_
    · rintro i f ⟨sN, sL, J⟩ ha ⟨hN, hL, hA⟩ hi e1 w3
      simp only at hN hL hA
      have hga := map_get fldv r.fields i f ha
      have hfm := List.mem_of_getElem? ha
      have hbf := hm.fields f hfm
      have hix := fun h => strs_index v.names f.name h (by omega)
      have hcn : (canN v (r.fields.take i)).length ≤ 2 ^ 31 := Nat.le_trans (canN_len v _) (by have := List.length_take_le i r.fields; have := hm.2.2.2.2.1; have := hm.2.2.2.2.2.1; simp only [Dsc.fields, List.length_append] at *; omega)
      have hcl2 : (canL B v (r.fields.take i)).length ≤ 2 ^ 31 := Nat.le_trans (canL_len B v _) (by have := List.length_take_le i r.fields; have := hm.2.2.2.2.1; have := hm.2.2.2.2.2.1; simp only [Dsc.fields, List.length_append] at *; omega)
      have oN := hN.one
      have oL := hL.one
      simp only [e1, w3, get_mid, set_mid, get_mid1, set_mid1, g0', g1', g0x, g1x, awH, ↓awD, awP, Nat.reduceLeDiff, Nat.reduceEqDiff, Nat.reduceAdd, Int.reduceLT, Int.reduceLE, Int.reduceEq]
      ((try refine Need.mk (by first | (first | omega | (simp only [awO] at *; omega) | (simp; omega)) | (constructor <;> (first | omega | (simp only [awO] at *; omega) | (simp; omega)))) ?_); refine Elem.recs hga (by first | (rw [fldv_eq]; exact ⟨rfl, rfl⟩) | exact ⟨rfl, rfl⟩) ?_; simp only [fldv_eq, w3, get_mid, set_mid, get_mid1, set_mid1, getJ, setJ, g0', g1', g0x, g1x, aw21, awH, ↓awD, awP, Nat.reduceLeDiff, Nat.reduceEqDiff, Nat.reduceAdd, Int.reduceLT, Int.reduceLE, Int.reduceEq])
      ((first | refine EvF.ret (hix _) ?_ | refine EvRF.ret (hix _) ?_); simp only [w3, get_mid, set_mid, get_mid1, set_mid1, getJ, setJ, g0', g1', g0x, g1x, aw21, awH, ↓awD, awP, Nat.reduceLeDiff, Nat.reduceEqDiff, Nat.reduceAdd, Int.reduceLT, Int.reduceLE, Int.reduceEq])
      rcases idx_find (fun x => decide (f.name = x)) v.names 0 with ⟨e0, e2⟩ | ⟨k, a, e0, _, e2⟩
      · have z0 : decide ((0 : Int) ≤ -1) = false := rfl
        have hpk : pick v f = f.dfl.head? := by unfold pick; rw [e2]; rfl
        rcases (by cases f.dfl with | nil => exact .inl rfl | cons y ys => exact .inr ⟨y, ys, rfl⟩ : f.dfl = [] ∨ ∃ y ys, f.dfl = y :: ys) with hd | ⟨y, ys, hd⟩
        · rw [hd] at hpk
          have hln : decide ((0 : Int) < (f.dfl.length : Int)) = false := by rw [hd]; rfl
          simp only [oN, oL, e2, z0, hln, w3, get_mid, set_mid, get_mid1, set_mid1, getJ, setJ, g0', g1', g0x, g1x, awH, ↓awD, awP, Nat.reduceLeDiff, Nat.reduceEqDiff, Nat.reduceAdd, Int.reduceLT, Int.reduceLE, Int.reduceEq]
          exact ⟨(i + 1, sN, sL, J ++ [_]), ⟨hi, by rw [canN_skip ha hpk, ← List.append_assoc]; exact hN.app _, by rw [canL_skip B ha hpk, ← List.append_assoc]; exact hL.app _, hA⟩, by simp only; omega, weak_of (List.append_assoc ..).symm (by simp [look])⟩
        · rw [hd] at hpk
          have hpk : pick v f = some y := hpk
          have hln : decide ((0 : Int) < (f.dfl.length : Int)) = true := by rw [hd]; simp
          have hgy : (f.dfl.map valv)[0]? = some (valv y) := by rw [hd]; rfl
          have hBy := hB8 f hfm y hpk
          simp only [valv_eq] at hBy
          have hdl : 0 < f.dfl.length := by rw [hd]; simp
          simp only [oN, oL, e2, z0, hln, w3, get_mid, set_mid, get_mid1, set_mid1, getJ, setJ, g0', g1', g0x, g1x, awH, ↓awD, awP, Nat.reduceLeDiff, Nat.reduceEqDiff, Nat.reduceAdd, Int.reduceLT, Int.reduceLE, Int.reduceEq]
          repeat' (first | ((try refine Need.mk (by first | (first | omega | (simp only [awO] at *; omega) | (simp; omega)) | (constructor <;> (first | omega | (simp only [awO] at *; omega) | (simp; omega)))) ?_); refine Elem.recs hgy (by first | (rw [valv_eq]; exact ⟨rfl, rfl⟩) | exact ⟨rfl, rfl⟩) ?_; simp only [valv_eq, oN, oL, e2, z0, hln, w3, get_mid, set_mid, get_mid1, set_mid1, getJ, setJ, g0', g1', g0x, g1x, aw21, awH, ↓awD, awP, Nat.reduceLeDiff, Nat.reduceEqDiff, Nat.reduceAdd, Int.reduceLT, Int.reduceLE, Int.reduceEq]) | ((first | refine EvF.ret (hbl _ _) ?_ | refine EvRF.ret (hbl _ _) ?_); simp only [oN, oL, e2, z0, hln, w3, get_mid, set_mid, get_mid1, set_mid1, getJ, setJ, g0', g1', g0x, g1x, aw21, awH, ↓awD, awP, Nat.reduceLeDiff, Nat.reduceEqDiff, Nat.reduceAdd, Int.reduceLT, Int.reduceLE, Int.reduceEq]) | ((first | refine EvF.ret (hBy _) ?_ | refine EvRF.ret (hBy _) ?_); simp only [oN, oL, e2, z0, hln, w3, get_mid, set_mid, get_mid1, set_mid1, getJ, setJ, g0', g1', g0x, g1x, aw21, awH, ↓awD, awP, Nat.reduceLeDiff, Nat.reduceEqDiff, Nat.reduceAdd, Int.reduceLT, Int.reduceLE, Int.reduceEq]) | (refine Need.mk (by simp only [litParts, List.mem_cons, List.not_mem_nil, or_false, forall_eq_or_imp, forall_eq]; refine ⟨by decide, by decide, by decide, ?_⟩; repeat' (first | exact ⟨rfl, rfl, rfl⟩ | rfl | constructor)) ?_; simp only [oN, oL, e2, z0, hln, w3, get_mid, set_mid, get_mid1, set_mid1, getJ, setJ, g0', g1', g0x, g1x, awH, ↓awD, awP, Nat.reduceLeDiff, Nat.reduceEqDiff, Nat.reduceAdd, Int.reduceLT, Int.reduceLE, Int.reduceEq]))
          refine AppO.use (lo := G.length + 2) (J := J ++ [AObj.cells [str f.name, i64 f.t, boolv f.opt, vall f.dfl]]) (List.append_assoc ..) (by simp) (by rw [← List.append_assoc]; exact hN.app _) (by decide) rfl (fit_strs _) (fit_str _) (one_str _) (strip_strs _) rfl (by simp only [List.length_map, List.length_cons, List.length_nil]; omega) (by simp only [List.length_map, List.length_cons, List.length_nil]; omega) (by simp) fun J1 sN1 hN1 hF1 hH1 => ?_
          rw [← List.append_assoc] at hF1 hH1
          have oN1 := hN1.one
          have hL1 := (hL.app [AObj.cells [str f.name, i64 f.t, boolv f.opt, vall f.dfl]]).frm hF1 hA.symm
          have hA1 := hH1.apart hA.symm (hL.app [AObj.cells [str f.name, i64 f.t, boolv f.opt, vall f.dfl]])
          have hf1 := hF1 _ _ (getJ (G ++ [oS] ++ [.cells [i64 v.kind, i64 v.n, str v.s, sN, sL]]) J (AObj.cells [str f.name, i64 f.t, boolv f.opt, vall f.dfl])) (slot_ne hN)
          refine AndF.mk ?_ ?_
          · simp only [oN, oL, oN1, hf1, w3, get_mid, set_mid, get_mid1, set_mid1, getJ, setJ, g0', g1', g0x, g1x, awH, ↓awD, awP, Nat.reduceLeDiff, Nat.reduceEqDiff, Nat.reduceAdd, Int.reduceLT, Int.reduceLE, Int.reduceEq]
            repeat' (first | ((try refine Need.mk (by first | (first | omega | (simp only [awO] at *; omega) | (simp; omega)) | (constructor <;> (first | omega | (simp only [awO] at *; omega) | (simp; omega)))) ?_); refine Elem.recs hgy (by first | (rw [valv_eq]; exact ⟨rfl, rfl⟩) | exact ⟨rfl, rfl⟩) ?_; simp only [valv_eq, oN, oL, oN1, hf1, w3, get_mid, set_mid, get_mid1, set_mid1, getJ, setJ, g0', g1', g0x, g1x, aw21, awH, ↓awD, awP, Nat.reduceLeDiff, Nat.reduceEqDiff, Nat.reduceAdd, Int.reduceLT, Int.reduceLE, Int.reduceEq]) | ((first | refine EvF.ret (hbl _ _) ?_ | refine EvRF.ret (hbl _ _) ?_); simp only [oN, oL, oN1, hf1, w3, get_mid, set_mid, get_mid1, set_mid1, getJ, setJ, g0', g1', g0x, g1x, aw21, awH, ↓awD, awP, Nat.reduceLeDiff, Nat.reduceEqDiff, Nat.reduceAdd, Int.reduceLT, Int.reduceLE, Int.reduceEq]) | ((first | refine EvF.ret (hBy _) ?_ | refine EvRF.ret (hBy _) ?_); simp only [oN, oL, oN1, hf1, w3, get_mid, set_mid, get_mid1, set_mid1, getJ, setJ, g0', g1', g0x, g1x, aw21, awH, ↓awD, awP, Nat.reduceLeDiff, Nat.reduceEqDiff, Nat.reduceAdd, Int.reduceLT, Int.reduceLE, Int.reduceEq]) | (refine Need.mk (by simp only [litParts, List.mem_cons, List.not_mem_nil, or_false, forall_eq_or_imp, forall_eq]; refine ⟨by decide, by decide, by decide, ?_⟩; repeat' (first | exact ⟨rfl, rfl, rfl⟩ | rfl | constructor)) ?_; simp only [oN, oL, oN1, hf1, w3, get_mid, set_mid, get_mid1, set_mid1, getJ, setJ, g0', g1', g0x, g1x, awH, ↓awD, awP, Nat.reduceLeDiff, Nat.reduceEqDiff, Nat.reduceAdd, Int.reduceLT, Int.reduceLE, Int.reduceEq]))
          simp only [oN, oL, oN1, hf1, w3, get_mid, set_mid, get_mid1, set_mid1, getJ, setJ, g0', g1', g0x, g1x, awH, ↓awD, awP, Nat.reduceLeDiff, Nat.reduceEqDiff, Nat.reduceAdd, Int.reduceLT, Int.reduceLE, Int.reduceEq]
          refine AppO.use (z := z5) (lo := G.length + 2) (J := J1) rfl (by simp) hL1 (by decide) rfl (fit_vals _) (fit_val _) (one_val _) (strip_vals _) (strip_val _) (by simp only [List.length_map, List.length_cons, List.length_nil]; omega) (by simp only [List.length_map, List.length_cons, List.length_nil]; omega) (by simp) fun J2 sL2 hL2 hF2 hH2 => ?_
          have oL2 := hL2.one
          have hN2 := hN1.frm hF2 hA1.symm
          have hA2 := hH2.apart hA1.symm hN1
          have hf2 := hF2 _ _ hf1 (slot_ne hL)
          refine AndF.mk ?_ ?_
          · simp only [oN, oL, oN1, oL2, hf1, hf2, w3, get_mid, set_mid, get_mid1, set_mid1, getJ, setJ, g0', g1', g0x, g1x, awH, ↓awD, awP, Nat.reduceLeDiff, Nat.reduceEqDiff, Nat.reduceAdd, Int.reduceLT, Int.reduceLE, Int.reduceEq]
            repeat' (first | ((try refine Need.mk (by first | (first | omega | (simp only [awO] at *; omega) | (simp; omega)) | (constructor <;> (first | omega | (simp only [awO] at *; omega) | (simp; omega)))) ?_); refine Elem.recs hgy (by first | (rw [valv_eq]; exact ⟨rfl, rfl⟩) | exact ⟨rfl, rfl⟩) ?_; simp only [valv_eq, oN, oL, oN1, oL2, hf1, hf2, w3, get_mid, set_mid, get_mid1, set_mid1, getJ, setJ, g0', g1', g0x, g1x, aw21, awH, ↓awD, awP, Nat.reduceLeDiff, Nat.reduceEqDiff, Nat.reduceAdd, Int.reduceLT, Int.reduceLE, Int.reduceEq]) | ((first | refine EvF.ret (hbl _ _) ?_ | refine EvRF.ret (hbl _ _) ?_); simp only [oN, oL, oN1, oL2, hf1, hf2, w3, get_mid, set_mid, get_mid1, set_mid1, getJ, setJ, g0', g1', g0x, g1x, aw21, awH, ↓awD, awP, Nat.reduceLeDiff, Nat.reduceEqDiff, Nat.reduceAdd, Int.reduceLT, Int.reduceLE, Int.reduceEq]) | ((first | refine EvF.ret (hBy _) ?_ | refine EvRF.ret (hBy _) ?_); simp only [oN, oL, oN1, oL2, hf1, hf2, w3, get_mid, set_mid, get_mid1, set_mid1, getJ, setJ, g0', g1', g0x, g1x, aw21, awH, ↓awD, awP, Nat.reduceLeDiff, Nat.reduceEqDiff, Nat.reduceAdd, Int.reduceLT, Int.reduceLE, Int.reduceEq]) | (refine Need.mk (by simp only [litParts, List.mem_cons, List.not_mem_nil, or_false, forall_eq_or_imp, forall_eq]; refine ⟨by decide, by decide, by decide, ?_⟩; repeat' (first | exact ⟨rfl, rfl, rfl⟩ | rfl | constructor)) ?_; simp only [oN, oL, oN1, oL2, hf1, hf2, w3, get_mid, set_mid, get_mid1, set_mid1, getJ, setJ, g0', g1', g0x, g1x, awH, ↓awD, awP, Nat.reduceLeDiff, Nat.reduceEqDiff, Nat.reduceAdd, Int.reduceLT, Int.reduceLE, Int.reduceEq]))
          simp only [oN, oL, oN1, oL2, hf1, hf2, w3, get_mid, set_mid, get_mid1, set_mid1, getJ, setJ, g0', g1', g0x, g1x, awH, ↓awD, awP, Nat.reduceLeDiff, Nat.reduceEqDiff, Nat.reduceAdd, Int.reduceLT, Int.reduceLE, Int.reduceEq]
          exact ⟨(i + 1, sN1, sL2, J2), ⟨hi, by rw [canN_succ ha hpk, List.map_append]; exact hN2.swap (by simp) (by simp), by rw [canL_succ B ha hpk, List.map_append, List.map_cons, List.map_nil, valv_eq (B f.t y)]; exact hL2.swap (by simp) (by simp), hA2⟩, by simp only; omega, weak_of rfl (by simp [look])⟩
      · rw [Nat.zero_add] at e2
        have z0 : decide ((0 : Int) ≤ (k : Int)) = true := by simp
        have hk := lt_len e0
        obtain ⟨y, hy⟩ : ∃ y, v.l[k]? = some y := ⟨_, List.getElem?_eq_getElem (by omega)⟩
        have hpk : pick v f = some y := by unfold pick; rw [e2, if_pos (by omega), Int.toNat_natCast]; exact hy
        have wk : IntKind.i64.wrap ((k : Int) + 1) = ((k + 1 : Nat) : Int) := by rw [wrap_i64] <;> omega
        have hBy := hB8 f hfm y hpk
        simp only [e2, z0, wk, get_mid, set_mid, get_mid1, set_mid1, getJ, setJ, g0', g1', g0x, g1x, awH, ↓awD, awP, Nat.reduceLeDiff, Nat.reduceEqDiff, Nat.reduceAdd, Int.reduceLT, Int.reduceLE, Int.reduceEq]
        have hsl : List.drop ((k : Int)).toNat (List.take (((k + 1 : Nat) : Int)).toNat (v.l.map valv)) = [valv y] := by
          rw [Int.toNat_natCast, Int.toNat_natCast, ← List.map_take, ← List.map_drop, List.take_add_one, hy, List.drop_append_of_le_length (by simp; omega)]
          simp
        have hgy : [valv y][0]? = some (valv y) := rfl
        simp only [valv_eq] at hBy
        refine Need.mk ⟨by omega, by omega, by omega, Or.inr fun e he => sure_valv v.l e (by first | exact he | exact List.mem_of_mem_take he)⟩ ?_
        simp only [hsl, oN, oL, e2, z0, wk, get_mid, set_mid, get_mid1, set_mid1, getJ, setJ, g0', g1', g0x, g1x, awH, ↓awD, awP, Nat.reduceLeDiff, Nat.reduceEqDiff, Nat.reduceAdd, Int.reduceLT, Int.reduceLE, Int.reduceEq]
        repeat' (first | ((try refine Need.mk (by first | (first | omega | (simp only [awO] at *; omega) | (simp; omega)) | (constructor <;> (first | omega | (simp only [awO] at *; omega) | (simp; omega)))) ?_); refine Elem.recs hgy (by first | (rw [valv_eq]; exact ⟨rfl, rfl⟩) | exact ⟨rfl, rfl⟩) ?_; simp only [valv_eq, oN, oL, w3, get_mid, set_mid, get_mid1, set_mid1, getJ, setJ, g0', g1', g0x, g1x, aw21, awH, ↓awD, awP, Nat.reduceLeDiff, Nat.reduceEqDiff, Nat.reduceAdd, Int.reduceLT, Int.reduceLE, Int.reduceEq]) | ((first | refine EvF.ret (hbl _ _) ?_ | refine EvRF.ret (hbl _ _) ?_); simp only [oN, oL, w3, get_mid, set_mid, get_mid1, set_mid1, getJ, setJ, g0', g1', g0x, g1x, aw21, awH, ↓awD, awP, Nat.reduceLeDiff, Nat.reduceEqDiff, Nat.reduceAdd, Int.reduceLT, Int.reduceLE, Int.reduceEq]) | ((first | refine EvF.ret (hBy _) ?_ | refine EvRF.ret (hBy _) ?_); simp only [oN, oL, w3, get_mid, set_mid, get_mid1, set_mid1, getJ, setJ, g0', g1', g0x, g1x, aw21, awH, ↓awD, awP, Nat.reduceLeDiff, Nat.reduceEqDiff, Nat.reduceAdd, Int.reduceLT, Int.reduceLE, Int.reduceEq]) | (refine Need.mk (by simp only [litParts, List.mem_cons, List.not_mem_nil, or_false, forall_eq_or_imp, forall_eq]; refine ⟨by decide, by decide, by decide, ?_⟩; repeat' (first | exact ⟨rfl, rfl, rfl⟩ | rfl | constructor)) ?_; simp only [oN, oL, w3, get_mid, set_mid, get_mid1, set_mid1, getJ, setJ, g0', g1', g0x, g1x, awH, ↓awD, awP, Nat.reduceLeDiff, Nat.reduceEqDiff, Nat.reduceAdd, Int.reduceLT, Int.reduceLE, Int.reduceEq]))
        refine AppO.use (lo := G.length + 2) (J := J ++ [AObj.cells [str f.name, i64 f.t, boolv f.opt, vall f.dfl]]) (List.append_assoc ..) (by simp) (by rw [← List.append_assoc]; exact hN.app _) (by decide) rfl (fit_strs _) (fit_str _) (one_str _) (strip_strs _) rfl (by simp only [List.length_map, List.length_cons, List.length_nil]; omega) (by simp only [List.length_map, List.length_cons, List.length_nil]; omega) (by simp) fun J1 sN1 hN1 hF1 hH1 => ?_
        rw [← List.append_assoc] at hF1 hH1
        have oN1 := hN1.one
        have hL1 := (hL.app [AObj.cells [str f.name, i64 f.t, boolv f.opt, vall f.dfl]]).frm hF1 hA.symm
        have hA1 := hH1.apart hA.symm (hL.app [AObj.cells [str f.name, i64 f.t, boolv f.opt, vall f.dfl]])
        have hf1 := hF1 _ _ (getJ (G ++ [oS] ++ [.cells [i64 v.kind, i64 v.n, str v.s, sN, sL]]) J (AObj.cells [str f.name, i64 f.t, boolv f.opt, vall f.dfl])) (slot_ne hN)
        refine AndF.mk ?_ ?_
        · simp only [oN, oL, oN1, hf1, w3, get_mid, set_mid, get_mid1, set_mid1, getJ, setJ, g0', g1', g0x, g1x, awH, ↓awD, awP, Nat.reduceLeDiff, Nat.reduceEqDiff, Nat.reduceAdd, Int.reduceLT, Int.reduceLE, Int.reduceEq]
          repeat' (first | ((try refine Need.mk (by first | (first | omega | (simp only [awO] at *; omega) | (simp; omega)) | (constructor <;> (first | omega | (simp only [awO] at *; omega) | (simp; omega)))) ?_); refine Elem.recs hgy (by first | (rw [valv_eq]; exact ⟨rfl, rfl⟩) | exact ⟨rfl, rfl⟩) ?_; simp only [valv_eq, oN, oL, oN1, hf1, w3, get_mid, set_mid, get_mid1, set_mid1, getJ, setJ, g0', g1', g0x, g1x, aw21, awH, ↓awD, awP, Nat.reduceLeDiff, Nat.reduceEqDiff, Nat.reduceAdd, Int.reduceLT, Int.reduceLE, Int.reduceEq]) | ((first | refine EvF.ret (hbl _ _) ?_ | refine EvRF.ret (hbl _ _) ?_); simp only [oN, oL, oN1, hf1, w3, get_mid, set_mid, get_mid1, set_mid1, getJ, setJ, g0', g1', g0x, g1x, aw21, awH, ↓awD, awP, Nat.reduceLeDiff, Nat.reduceEqDiff, Nat.reduceAdd, Int.reduceLT, Int.reduceLE, Int.reduceEq]) | ((first | refine EvF.ret (hBy _) ?_ | refine EvRF.ret (hBy _) ?_); simp only [oN, oL, oN1, hf1, w3, get_mid, set_mid, get_mid1, set_mid1, getJ, setJ, g0', g1', g0x, g1x, aw21, awH, ↓awD, awP, Nat.reduceLeDiff, Nat.reduceEqDiff, Nat.reduceAdd, Int.reduceLT, Int.reduceLE, Int.reduceEq]) | (refine Need.mk (by simp only [litParts, List.mem_cons, List.not_mem_nil, or_false, forall_eq_or_imp, forall_eq]; refine ⟨by decide, by decide, by decide, ?_⟩; repeat' (first | exact ⟨rfl, rfl, rfl⟩ | rfl | constructor)) ?_; simp only [oN, oL, oN1, hf1, w3, get_mid, set_mid, get_mid1, set_mid1, getJ, setJ, g0', g1', g0x, g1x, awH, ↓awD, awP, Nat.reduceLeDiff, Nat.reduceEqDiff, Nat.reduceAdd, Int.reduceLT, Int.reduceLE, Int.reduceEq]))
        simp only [oN, oL, oN1, hf1, w3, get_mid, set_mid, get_mid1, set_mid1, getJ, setJ, g0', g1', g0x, g1x, awH, ↓awD, awP, Nat.reduceLeDiff, Nat.reduceEqDiff, Nat.reduceAdd, Int.reduceLT, Int.reduceLE, Int.reduceEq]
        refine AppO.use (z := z5) (lo := G.length + 2) (J := J1) rfl (by simp) hL1 (by decide) rfl (fit_vals _) (fit_val _) (one_val _) (strip_vals _) (strip_val _) (by simp only [List.length_map, List.length_cons, List.length_nil]; omega) (by simp only [List.length_map, List.length_cons, List.length_nil]; omega) (by simp) fun J2 sL2 hL2 hF2 hH2 => ?_
        have oL2 := hL2.one
        have hN2 := hN1.frm hF2 hA1.symm
        have hA2 := hH2.apart hA1.symm hN1
        have hf2 := hF2 _ _ hf1 (slot_ne hL)
        refine AndF.mk ?_ ?_
        · simp only [oN, oL, oN1, oL2, hf1, hf2, w3, get_mid, set_mid, get_mid1, set_mid1, getJ, setJ, g0', g1', g0x, g1x, awH, ↓awD, awP, Nat.reduceLeDiff, Nat.reduceEqDiff, Nat.reduceAdd, Int.reduceLT, Int.reduceLE, Int.reduceEq]
          repeat' (first | ((try refine Need.mk (by first | (first | omega | (simp only [awO] at *; omega) | (simp; omega)) | (constructor <;> (first | omega | (simp only [awO] at *; omega) | (simp; omega)))) ?_); refine Elem.recs hgy (by first | (rw [valv_eq]; exact ⟨rfl, rfl⟩) | exact ⟨rfl, rfl⟩) ?_; simp only [valv_eq, oN, oL, oN1, oL2, hf1, hf2, w3, get_mid, set_mid, get_mid1, set_mid1, getJ, setJ, g0', g1', g0x, g1x, aw21, awH, ↓awD, awP, Nat.reduceLeDiff, Nat.reduceEqDiff, Nat.reduceAdd, Int.reduceLT, Int.reduceLE, Int.reduceEq]) | ((first | refine EvF.ret (hbl _ _) ?_ | refine EvRF.ret (hbl _ _) ?_); simp only [oN, oL, oN1, oL2, hf1, hf2, w3, get_mid, set_mid, get_mid1, set_mid1, getJ, setJ, g0', g1', g0x, g1x, aw21, awH, ↓awD, awP, Nat.reduceLeDiff, Nat.reduceEqDiff, Nat.reduceAdd, Int.reduceLT, Int.reduceLE, Int.reduceEq]) | ((first | refine EvF.ret (hBy _) ?_ | refine EvRF.ret (hBy _) ?_); simp only [oN, oL, oN1, oL2, hf1, hf2, w3, get_mid, set_mid, get_mid1, set_mid1, getJ, setJ, g0', g1', g0x, g1x, aw21, awH, ↓awD, awP, Nat.reduceLeDiff, Nat.reduceEqDiff, Nat.reduceAdd, Int.reduceLT, Int.reduceLE, Int.reduceEq]) | (refine Need.mk (by simp only [litParts, List.mem_cons, List.not_mem_nil, or_false, forall_eq_or_imp, forall_eq]; refine ⟨by decide, by decide, by decide, ?_⟩; repeat' (first | exact ⟨rfl, rfl, rfl⟩ | rfl | constructor)) ?_; simp only [oN, oL, oN1, oL2, hf1, hf2, w3, get_mid, set_mid, get_mid1, set_mid1, getJ, setJ, g0', g1', g0x, g1x, awH, ↓awD, awP, Nat.reduceLeDiff, Nat.reduceEqDiff, Nat.reduceAdd, Int.reduceLT, Int.reduceLE, Int.reduceEq]))
        simp only [oN, oL, oN1, oL2, hf1, hf2, w3, get_mid, set_mid, get_mid1, set_mid1, getJ, setJ, g0', g1', g0x, g1x, awH, ↓awD, awP, Nat.reduceLeDiff, Nat.reduceEqDiff, Nat.reduceAdd, Int.reduceLT, Int.reduceLE, Int.reduceEq]
        exact ⟨(i + 1, sN1, sL2, J2), ⟨hi, by rw [canN_succ ha hpk, List.map_append]; exact hN2.swap (by simp) (by simp), by rw [canL_succ B ha hpk, List.map_append, List.map_cons, List.map_nil, valv_eq (B f.t y)]; exact hL2.swap (by simp) (by simp), hA2⟩, by simp only; omega, weak_of rfl (by simp [look])⟩
    · rintro ⟨sN, sL, J⟩ ⟨hN, hL, hA⟩ e1
      simp only at hN hL hA
      have oN := hN.one
      have oL := hL.one
      rw [List.take_length] at hN hL
      simp only [e1, oN, oL, g2', gs2', get_mid, set_mid, get_lo, List.length_cons, List.length_nil, awH, ↓awD, awP, Nat.reduceLeDiff, Nat.reduceEqDiff, Nat.reduceAdd, Int.reduceLT, Int.reduceLE, Int.reduceEq]
      have hu : canF B r v = .mk v.kind v.n v.s (canN v r.fields) (canL B v r.fields) v.ok := by unfold canF; rw [decide_eq_true hk8]; rfl
      have hlo : h.length ≤ G.length + 2 := by rw [← hHd]; simp only [List.length_append]; omega
      rw [hu]
      exact Fin.all (by rw [← hHd]; simp only [List.length_append]; omega) ⟨sN, sL, _, rfl, by rw [← hHd]; simp only [List.append_assoc]; rfl, .inl (SlotOk.lower (SlotOk.swap hN (by simp) (by simp)) hlo), .inl (SlotOk.lower (SlotOk.swap hL (by simp) (by simp)) hlo), hA⟩
  · simp only [g0', g1', app_get (app_get g0 [oS]) _, awH, ↓awD, awP, Nat.reduceLeDiff, Nat.reduceEqDiff, Nat.reduceAdd, Int.reduceLT, Int.reduceLE, Int.reduceEq]
    refine BrF.mk (fun hk10 => ?_) (fun hk10 => ?_)
    · rw [decide_eq_true_eq] at hk10
      have hpa : parted v.kind = true := by simp [parted, hk10]
      have hbl := hbl hpa
      have hB10 := hB10 hk10
      rw [hro hpa] at hbl
      simp only [g0', g1', app_get (app_get g0 [oS]) _, awH, ↓awD, awP, Nat.reduceLeDiff, Nat.reduceEqDiff, Nat.reduceAdd, Int.reduceLT, Int.reduceLE, Int.reduceEq]
      ((first | refine EvF.ret (hf _) ?_ | refine EvRF.ret (hf _) ?_); simp only [g0, aw21, awH, ↓awD, awP, Nat.reduceLeDiff, Nat.reduceEqDiff, Nat.reduceAdd, Int.reduceLT, Int.reduceLE, Int.reduceEq])
      refine LoopF.list r.fields hfl2 (γ := List Val × List AObj) (fun i g => ⟨[(2, .ref h.length 0), (3, .ref i1 0), (4, .ref G.length 0), (5, .ref (G ++ [oS]).length 0), (74, fldl r.fields), (75, i64 r.fields.length), (76, i64 i)], G ++ [oS] ++ [.cells [i64 v.kind, i64 v.n, str v.s, .sl .full [], .sl .full (g.1.map valv)]] ++ g.2⟩)
        (fun i g => g.1 = canC B v (r.fields.take i)) ([], []) (by simp [canC]) (weak_of (by simp) (by simp [look])) ?_ ?_
      · rintro i f ⟨l, J⟩ ha hv2 hi e1 w3
        simp only at hv2
        have hga := map_get fldv r.fields i f ha
        have hfm := List.mem_of_getElem? ha
        simp only [e1, w3, get_mid, set_mid, get_mid1, set_mid1, getJ, setJ, g0', g1', g0x, g1x, awH, ↓awD, awP, Nat.reduceLeDiff, Nat.reduceEqDiff, Nat.reduceAdd, Int.reduceLT, Int.reduceLE, Int.reduceEq]
        ((try refine Need.mk (by first | (first | omega | (simp only [awO] at *; omega) | (simp; omega)) | (constructor <;> (first | omega | (simp only [awO] at *; omega) | (simp; omega)))) ?_); refine Elem.recs hga (by first | (rw [fldv_eq]; exact ⟨rfl, rfl⟩) | exact ⟨rfl, rfl⟩) ?_; simp only [fldv_eq, w3, get_mid, set_mid, get_mid1, set_mid1, getJ, setJ, g0', g1', g0x, g1x, aw21, awH, ↓awD, awP, Nat.reduceLeDiff, Nat.reduceEqDiff, Nat.reduceAdd, Int.reduceLT, Int.reduceLE, Int.reduceEq])
        refine BrF.mk (fun hn => ?_) (fun hn => ?_)
        · rw [decide_eq_true_eq] at hn
          obtain ⟨y, ys, hvl⟩ : ∃ y ys, v.l = y :: ys := by
            cases hvl : v.l with
            | nil => exact absurd hvl (h10 hk10 f hfm hn)
            | cons y ys => exact ⟨y, ys, rfl⟩
          have hgy : (v.l.map valv)[0]? = some (valv y) := by rw [hvl]; rfl
          have hll : 0 < v.l.length := by rw [hvl]; simp
          have hBy := hB10 f hfm hn y (by rw [hvl]; rfl)
          simp only [valv_eq] at hBy
          simp only [w3, get_mid, set_mid, get_mid1, set_mid1, getJ, setJ, g0', g1', g0x, g1x, awH, ↓awD, awP, Nat.reduceLeDiff, Nat.reduceEqDiff, Nat.reduceAdd, Int.reduceLT, Int.reduceLE, Int.reduceEq]
          repeat' (first | ((try refine Need.mk (by first | (first | omega | (simp only [awO] at *; omega) | (simp; omega)) | (constructor <;> (first | omega | (simp only [awO] at *; omega) | (simp; omega)))) ?_); refine Elem.recs hgy (by first | (rw [valv_eq]; exact ⟨rfl, rfl⟩) | exact ⟨rfl, rfl⟩) ?_; simp only [valv_eq, w3, get_mid, set_mid, get_mid1, set_mid1, getJ, setJ, g0', g1', g0x, g1x, aw21, awH, ↓awD, awP, Nat.reduceLeDiff, Nat.reduceEqDiff, Nat.reduceAdd, Int.reduceLT, Int.reduceLE, Int.reduceEq]) | ((first | refine EvF.ret (hbl _ _) ?_ | refine EvRF.ret (hbl _ _) ?_); simp only [w3, get_mid, set_mid, get_mid1, set_mid1, getJ, setJ, g0', g1', g0x, g1x, aw21, awH, ↓awD, awP, Nat.reduceLeDiff, Nat.reduceEqDiff, Nat.reduceAdd, Int.reduceLT, Int.reduceLE, Int.reduceEq]) | ((first | refine EvF.ret (hBy _) ?_ | refine EvRF.ret (hBy _) ?_); simp only [w3, get_mid, set_mid, get_mid1, set_mid1, getJ, setJ, g0', g1', g0x, g1x, aw21, awH, ↓awD, awP, Nat.reduceLeDiff, Nat.reduceEqDiff, Nat.reduceAdd, Int.reduceLT, Int.reduceLE, Int.reduceEq]) | (refine Need.mk (by simp only [litParts, List.mem_cons, List.not_mem_nil, or_false, forall_eq_or_imp, forall_eq]; refine ⟨by decide, by decide, by decide, ?_⟩; repeat' (first | exact ⟨rfl, rfl, rfl⟩ | rfl | constructor)) ?_; simp only [w3, get_mid, set_mid, get_mid1, set_mid1, getJ, setJ, g0', g1', g0x, g1x, awH, ↓awD, awP, Nat.reduceLeDiff, Nat.reduceEqDiff, Nat.reduceAdd, Int.reduceLT, Int.reduceLE, Int.reduceEq]))
          refine ⟨(i + 1, [B f.t y], J ++ [AObj.cells [str f.name, i64 f.t, boolv f.opt, vall f.dfl]]), ⟨hi, ?_⟩, by simp only; omega, weak_of ?_ (by simp [look])⟩
          · simp only; rw [canC_succ B ha hn (by rw [hvl]; rfl)]
          · simp only [List.map_cons, List.map_nil, valv_eq]; exact (List.append_assoc ..).symm
        · rw [decide_eq_false_iff_not] at hn
          simp only [w3, get_mid, set_mid, get_mid1, set_mid1, getJ, setJ, g0', g1', g0x, g1x, awH, ↓awD, awP, Nat.reduceLeDiff, Nat.reduceEqDiff, Nat.reduceAdd, Int.reduceLT, Int.reduceLE, Int.reduceEq]
          exact ⟨(i + 1, l, J ++ [_]), ⟨hi, by simp only; rw [canC_skip B ha hn]; exact hv2⟩, by simp only; omega, weak_of (List.append_assoc ..).symm (by simp [look])⟩
      · rintro ⟨l, J⟩ hv2 e1
        simp only at hv2
        rw [List.take_length] at hv2
        simp only [e1, g2', gs2', get_mid, set_mid, get_lo, List.length_cons, List.length_nil, awH, ↓awD, awP, Nat.reduceLeDiff, Nat.reduceEqDiff, Nat.reduceAdd, Int.reduceLT, Int.reduceLE, Int.reduceEq]
        have hu : canF B r v = .mk v.kind v.n v.s [] (canC B v r.fields) v.ok := by unfold canF; rw [hk8, decide_eq_true hk10]; rfl
        subst hv2
        rw [hu]
        exact Fin.all (by rw [← hHd]; simp only [List.length_append]; omega) ⟨_, _, _, rfl, by rw [← hHd]; simp only [List.append_assoc]; rfl, .inr ⟨.full, rfl⟩, .inr ⟨.full, rfl⟩, apart_full⟩
    · simp only [g0', g1', app_get (app_get g0 [oS]) _, awH, ↓awD, awP, Nat.reduceLeDiff, Nat.reduceEqDiff, Nat.reduceAdd, Int.reduceLT, Int.reduceLE, Int.reduceEq]
      refine BrF.mk (fun hk9 => ?_) (fun hk9 => ?_)
      · rw [decide_eq_true_eq] at hk9
        have hpa : parted v.kind = true := by simp [parted, hk9]
        have hbl := hbl hpa
        have hB9 := hB9 hk9
        rw [hro hpa] at hbl
        simp only [g0', g1', app_get (app_get g0 [oS]) _, app_get (app_get g1 [oS]) _, awH, ↓awD, awP, Nat.reduceLeDiff, Nat.reduceEqDiff, Nat.reduceAdd, Int.reduceLT, Int.reduceLE, Int.reduceEq]
        refine LoopF.list v.l (by omega) (γ := AV × List AObj) (fun i g => ⟨[(2, .ref h.length 0), (4, .ref G.length 0), (5, .ref (G ++ [oS]).length 0), (100, vall v.l), (101, i64 v.l.length), (102, i64 i)], G ++ [oS] ++ [.cells [i64 v.kind, i64 v.n, str v.s, .sl .full [], g.1]] ++ g.2⟩)
          (fun i g => SlotOk (G ++ [oS] ++ [.cells [i64 v.kind, i64 v.n, str v.s, .sl .full [], g.1]] ++ g.2) (G.length + 2) z5 (((v.l.take i).map (B r.elem)).map valv) g.1) (.sl .full [], []) (.inl ⟨rfl, rfl⟩) (weak_of (by simp) (by simp [look])) ?_ ?_
        · rintro i y ⟨sL, J⟩ ha hL hi e1 w3
          simp only at hL
          have oL := hL.one
          have hga := map_get valv v.l i y ha
          have hBy := hB9 y (List.mem_of_getElem? ha)
          simp only [valv_eq] at hBy
          have htl : (v.l.take i).length ≤ 2 ^ 40 := by have := List.length_take_le i v.l; omega
          simp only [e1, oL, w3, get_mid, set_mid, get_mid1, set_mid1, getJ, setJ, g0', g1', g0x, g1x, awH, ↓awD, awP, Nat.reduceLeDiff, Nat.reduceEqDiff, Nat.reduceAdd, Int.reduceLT, Int.reduceLE, Int.reduceEq]
          ((try refine Need.mk (by first | (first | omega | (simp only [awO] at *; omega) | (simp; omega)) | (constructor <;> (first | omega | (simp only [awO] at *; omega) | (simp; omega)))) ?_); refine Elem.recs hga (by first | (rw [valv_eq]; exact ⟨rfl, rfl⟩) | exact ⟨rfl, rfl⟩) ?_; simp only [valv_eq, oL, w3, get_mid, set_mid, get_mid1, set_mid1, getJ, setJ, g0', g1', g0x, g1x, aw21, awH, ↓awD, awP, Nat.reduceLeDiff, Nat.reduceEqDiff, Nat.reduceAdd, Int.reduceLT, Int.reduceLE, Int.reduceEq])
          repeat' (first | ((first | refine EvF.ret (ho _) ?_ | refine EvRF.ret (ho _) ?_); simp only [oL, w3, get_mid, set_mid, get_mid1, set_mid1, getJ, setJ, g0', g1', g0x, g1x, aw21, awH, ↓awD, awP, Nat.reduceLeDiff, Nat.reduceEqDiff, Nat.reduceAdd, Int.reduceLT, Int.reduceLE, Int.reduceEq]) | ((first | refine EvF.ret (hbl _ _) ?_ | refine EvRF.ret (hbl _ _) ?_); simp only [oL, w3, get_mid, set_mid, get_mid1, set_mid1, getJ, setJ, g0', g1', g0x, g1x, aw21, awH, ↓awD, awP, Nat.reduceLeDiff, Nat.reduceEqDiff, Nat.reduceAdd, Int.reduceLT, Int.reduceLE, Int.reduceEq]) | ((first | refine EvF.ret (hBy _) ?_ | refine EvRF.ret (hBy _) ?_); simp only [oL, w3, get_mid, set_mid, get_mid1, set_mid1, getJ, setJ, g0', g1', g0x, g1x, aw21, awH, ↓awD, awP, Nat.reduceLeDiff, Nat.reduceEqDiff, Nat.reduceAdd, Int.reduceLT, Int.reduceLE, Int.reduceEq]) | (refine Need.mk (by simp only [litParts, List.mem_cons, List.not_mem_nil, or_false, forall_eq_or_imp, forall_eq]; refine ⟨by decide, by decide, by decide, ?_⟩; repeat' (first | exact ⟨rfl, rfl, rfl⟩ | rfl | constructor)) ?_; simp only [oL, w3, get_mid, set_mid, get_mid1, set_mid1, getJ, setJ, g0', g1', g0x, g1x, awH, ↓awD, awP, Nat.reduceLeDiff, Nat.reduceEqDiff, Nat.reduceAdd, Int.reduceLT, Int.reduceLE, Int.reduceEq]))
          refine AppO.use (z := z5) (lo := G.length + 2) (J := J ++ [AObj.cells [i64 y.kind, i64 y.n, str y.s, strl y.names, vall y.l]]) (List.append_assoc ..) (by simp) (by rw [← List.append_assoc]; exact hL.app _) (by decide) rfl (fit_vals _) (fit_val _) (one_val _) (strip_vals _) (strip_val _) (by simp only [List.length_map, List.length_cons, List.length_nil]; omega) (by simp only [List.length_map, List.length_cons, List.length_nil]; omega) (by simp) fun J1 sL1 hL1 hF1 hH1 => ?_
          have oL1 := hL1.one
          simp only [oL1, w3, get_mid, set_mid, awH, ↓awD, awP, Nat.reduceLeDiff, Nat.reduceEqDiff, Nat.reduceAdd, Int.reduceLT, Int.reduceLE, Int.reduceEq]
          refine ⟨(i + 1, sL1, J1), ⟨hi, ?_⟩, by simp only; omega, weak_of rfl (by simp [look])⟩
          simp only
          rw [List.take_add_one, ha, List.map_append, List.map_append]
          simp only [Option.toList_some, List.map_cons, List.map_nil]
          rw [valv_eq (B r.elem y)]
          exact hL1.swap (by simp) (by simp)
        · rintro ⟨sL, J⟩ hL e1
          simp only at hL
          have oL := hL.one
          rw [List.take_length] at hL
          simp only [e1, oL, g2', gs2', get_mid, set_mid, get_lo, List.length_cons, List.length_nil, awH, ↓awD, awP, Nat.reduceLeDiff, Nat.reduceEqDiff, Nat.reduceAdd, Int.reduceLT, Int.reduceLE, Int.reduceEq]
          have hu : canF B r v = .mk v.kind v.n v.s [] (v.l.map (B r.elem)) v.ok := by unfold canF; rw [hk8, hk10, decide_eq_true hk9]; rfl
          have hlo : h.length ≤ G.length + 2 := by rw [← hHd]; simp only [List.length_append]; omega
          rw [hu]
          exact Fin.all (by rw [← hHd]; simp only [List.length_append]; omega) ⟨_, sL, _, rfl, by rw [← hHd]; simp only [List.append_assoc]; rfl, .inr ⟨.full, rfl⟩, .inl (SlotOk.lower (SlotOk.swap hL (by simp) (by simp)) hlo), apart_full⟩
      · subst hS0
        simp only [List.length_cons, List.length_nil, awH, ↓awD, awP, Nat.reduceLeDiff, Nat.reduceEqDiff, Nat.reduceAdd, Int.reduceLT, Int.reduceLE, Int.reduceEq]
        have hu : canF B r v = .mk v.kind v.n v.s [] [] v.ok := by unfold canF; rw [hk8, hk10, hk9]; rfl
        rw [hu]
        exact Fin.all (by rw [← hHd]; simp only [List.length_append]; omega) ⟨_, _, _, rfl, by rw [← hHd]; simp only [List.append_assoc]; rfl, .inr ⟨.full, rfl⟩, .inr ⟨.full, rfl⟩, apart_full⟩

theorem canon_step (d : List Dsc) (n : Nat) (r : Dsc) (room : Nat) (hroom : room ≤ 40) (v : Val) (B : Int → Val → Val) (hr : d[n]? = some r) (hm : BD (2 ^ 30) r) (hv : mxV v ≤ 2 ^ 48) (hvl : v.l.length ≤ 2 ^ 40)
    (h8 : v.kind = 8 → v.names.length = v.l.length) (h10 : v.kind = 10 → ∀ f, f ∈ r.fields → f.name = v.s → v.l ≠ []) (hpt : parted v.kind → 0 < room)
    (hB8 : v.kind = 8 → ∀ f, f ∈ r.fields → ∀ x, pick v f = some x → ∀ h, EvR E0 19 [rowv d f.t ((room - 1 : Nat) : Int), valv x] h (valv (B f.t x)))
    (hB10 : v.kind = 10 → ∀ f, f ∈ r.fields → f.name = v.s → ∀ x, v.l.head? = some x → ∀ h, EvR E0 19 [rowv d f.t ((room - 1 : Nat) : Int), valv x] h (valv (B f.t x)))
    (hB9 : v.kind = 9 → ∀ x, x ∈ v.l → ∀ h, EvR E0 19 [rowv d r.elem ((room - 1 : Nat) : Int), valv x] h (valv (B r.elem x))) (h : List AObj) :
    EvR E0 19 [rowv d n room, valv v] h (valv (canF B r v)) := by
  have h0 := canon_raw d n r room hroom v B hr hm hv hvl h8 h10 hpt hB8 hB10 hB9 h
  generalize canF B r v = u at h0 ⊢
  refine Ev.drop (by rw [valv_eq]; simp only [AV.under, unders, und_strs, und_vals, Bool.and_self]) ?_
  rw [valv_eq u]
  refine Ev.frz1 (Ev.frz1 (h0.mono ?_))
  rintro r h' ⟨sN, sL, J, rfl, hJ, hN, hL, hA⟩
  refine frz_or (j := 3) (s := sN) rfl hN (fit_strs _) (one_strs _) rfl hJ fun J' hF => ?_
  refine frz_or (j := 4) (s := sL) rfl (hL.imp (fun h => h.frm hF hA.symm) id) (fit_vals _) (one_vals _) rfl rfl fun J2 _ => ?_
  exact ⟨rfl, J2, rfl⟩

def ac64 : ACode := (.seq (.region [oq 1 (.box (tq 0)), oq 2 (.move (cb false))]) (.seq (.region [oq 3 (.move (.const (.slice none 0 0)))]) (.seq (.seq (.region [oq 8 (qf 8 1), oq 9 (ql 8), oq 10 (qf 9 1), oq 11 (ql 10), oq 12 (.buildSlice false 1 [zn] 2 [(0, (tq 9)), (1, (tq 11))]), oq 13 (.call (.func 46) [((tq 12), false)]), oq 14 (qn 13), oq 15 (.move (ci 0))]) (.block 0 (.loop (.seq (.region [oq 16 (.bin .lss (tq 15) (tq 14))]) (.seq (.cond (tq 16) .skip (.exit 0)) (.seq (.block 1 (.seq (.region [oq 17 (qx 4 13 15), oq 18 (qs 4 17), oq 5 (.alloc [zs, zi, zb, zn]), oz (.store 4 (tq 5) (tq 18))]) (.region [oq 19 (.take 3), oq 20 (qf 0 5), oq 21 (ql 20), oq 22 (.buildSlice false 1 [zs] 1 [(0, (tq 21))]), oq 23 (.append 1 16 [zs] (tq 19) (tq 22)), oq 3 (.take 23)]))) (.region [oq 24 (.bin .add (tq 15) (ci 1)), oq 15 (qm 24)]))))))) (.seq (.region [oq 25 (qf 0 1), oq 26 (ql 25), oq 27 (.bin .eql (tq 26) (ci 3)), oq 6 (qm 27)]) (.seq (.region [oq 28 (qf 6 1), oq 29 (ql 28), oq 30 (qn 29), oq 31 (.bin .leq (tq 30) (ci 256)), oq 32 (qm 31), og 33 (qf 7 1) 32 true, og 34 (ql 33) 32 true, og 35 (qn 34) 32 true, og 36 (.bin .leq (tq 35) (ci 256)) 32 true, oq 37 (.pick (tq 32) (tq 36) (cb false)), oq 7 (qm 37)]) (.seq (.region [oq 38 (qm 7), oq 39 (qm 38), og 40 (qm 3) 39 true, og 41 (.call (.func 78) [((tq 40), false)]) 39 true, oq 42 (.pick (tq 39) (tq 41) (cb false)), oq 43 (qm 42), og 44 (qf 6 1) 43 true, og 45 (ql 44) 43 true, og 46 (qf 7 1) 43 true, og 47 (ql 46) 43 true, og 48 (.buildSlice false 1 [zn] 2 [(0, (tq 45)), (1, (tq 47))]) 43 true, og 49 (.call (.func 79) [((tq 48), false)]) 43 true, og 50 (.call (.func 78) [((tq 49), false)]) 43 true, oq 51 (.pick (tq 43) (tq 50) (cb false)), oq 52 (qm 51), og 53 (qm 6) 52 true, og 54 (qf 6 1) 52 true, og 55 (ql 54) 52 true, og 56 (qn 55) 52 true, og 57 (.bin .gtr (tq 56) (ci 0)) 52 true, og 58 (.eqB false (tq 53) (tq 57)) 52 true, oq 59 (.pick (tq 52) (tq 58) (cb false)), oq 60 (qm 59), og 61 (qm 6) 60 true, og 62 (qm 61) 60 true, og 63 (qf 7 1) 62 false, og 64 (ql 63) 62 false, og 65 (qn 64) 62 false, og 66 (.bin .eql (tq 65) (ci 0)) 62 false, og 67 (.pick (tq 62) (cb true) (tq 66)) 60 true, oq 68 (.pick (tq 60) (tq 67) (cb false)), oq 2 (qm 68)]) .ret))))))
theorem c64 : cfn E0.P [(5, 0), (5, 5)] Tryz.f64 = some (ac64, [(.tmp 2)], 69) := by kernel_rfl
def ac66 : ACode := (.seq (.region [oq 4 (.box (tq 1)), oq 5 (.box (tq 2)), oq 6 (.move (cb false))]) (.seq (.region [oq 7 (qm 0), oq 8 (qn 7), oq 9 (.bin .leq (tq 8) (ci 256)), oq 10 (qm 9), og 11 (qm 0) 10 true, og 12 (.mkFunc (.func 81) [] [(tq 4), (tq 5)]) 10 true, og 13 (.call (.func 80) [((tq 11), false), ((tq 12), false)]) 10 true, og 14 (.un .not (tq 13)) 10 true, oq 15 (.pick (tq 10) (tq 14) (cb false)), oq 6 (qm 15)]) .ret))
theorem c66 : cfn E0.P [] Tryz.f66 = some (ac66, [(.tmp 6)], 16) := by kernel_rfl
def ac81 : ACode := (.seq (.region [oq 3 (.box (tq 0)), oq 4 (.move (cb false))]) (.seq (.region [oq 6 (qf 2 3), oq 7 (ql 6), oq 8 (qm 7), og 9 (qf 3 3) 8 false, og 10 (ql 9) 8 false, og 11 (qn 10) 8 false, og 12 (.bin .gtr (tq 11) (ci 0)) 8 false, oq 13 (.pick (tq 8) (cb true) (tq 12)), oq 5 (qm 13)]) (.seq (.region [oq 14 (qf 1 3), oq 15 (ql 14), oq 16 (.bin .lss (tq 15) (ci 0)), oq 17 (qm 16), og 18 (qf 1 3) 17 false, og 19 (ql 18) 17 false, og 20 (ql 1) 17 false, og 21 (.bin .geq (tq 19) (tq 20)) 17 false, oq 22 (.pick (tq 17) (cb true) (tq 21)), oq 23 (qm 22), og 24 (qf 2 3) 23 false, og 25 (ql 24) 23 false, og 26 (qm 25) 23 false, og 27 (qf 3 3) 26 true, og 28 (ql 27) 26 true, og 29 (qn 28) 26 true, og 30 (.bin .gtr (tq 29) (ci 0)) 26 true, og 31 (.pick (tq 26) (tq 30) (cb false)) 23 false, oq 32 (.pick (tq 23) (cb true) (tq 31)), oq 33 (qm 32), og 34 (qf 3 3) 33 false, og 35 (ql 34) 33 false, og 36 (qn 35) 33 false, og 37 (.bin .gtr (tq 36) (ci 1)) 33 false, oq 38 (.pick (tq 33) (cb true) (tq 37)), oq 39 (qm 38), og 40 (ql 2) 39 false, og 41 (qm 40) 39 false, og 42 (qm 5) 41 true, og 43 (.pick (tq 41) (tq 42) (cb false)) 39 false, oq 44 (.pick (tq 39) (cb true) (tq 43)), oq 4 (qm 44)]) .ret)))
theorem c81 : cfn E0.P [] Tryz.f81 = some (ac81, [(.tmp 4)], 45) := by kernel_rfl

def badF (n : Nat) (ch : Bool) (f : Fld) : Bool :=
  decide (f.t < 0) || (decide ((n : Int) ≤ f.t) || ((f.opt && decide (0 < f.dfl.length)) || (decide (1 < f.dfl.length) || (ch && (f.opt || decide (0 < f.dfl.length))))))
def fieldsT (l : List Fld) (n : Nat) (ch : Bool) : Bool := decide (l.length ≤ 256) && !l.any (badF n ch)

theorem fields2_ev (l : List Fld) (n : Nat) (ch : Bool) (hl : l.length < 2 ^ 60) (h : List AObj) : EvR E0 66 [fldl l, i64 n, boolv ch] h (boolv (fieldsT l n ch)) := by
  refine ev_of (fn := Tryz.f66) (hs := []) Tryz.func66 c66 (by simp) fun hcl => ?_
  have hc := fun (h' : List AObj) (i1 i2 : Nat) (h1 : h'[i1]? = some (AObj.cells [i64 n])) (h2 : h'[i2]? = some (AObj.cells [boolv ch])) => fld_any l 81 [.ref i1 0, .ref i2 0] (badF n ch) h' hl fun x hx => by
    show EvR E0 81 [fldv x, .ref i1 0, .ref i2 0] h' _
    refine ev_of (fn := Tryz.f81) (hs := []) Tryz.func81 c81 (by simp) fun hcl => ?_
    have hid2 := fun (l : List AObj) => app_get h1 l
    have hid3 := fun (l : List AObj) => app_get h2 l
    have d1 : decide ((0 : Int) < (x.dfl.length : Int)) = decide (0 < x.dfl.length) := by rw [decide_eq_decide]; omega
    have d2 : decide ((1 : Int) < (x.dfl.length : Int)) = decide (1 < x.dfl.length) := by rw [decide_eq_decide]; omega
    simp only [ac81, fldv_eq, hid2, hid3, d1, d2, awH, ↓awD, awP, Nat.reduceLeDiff, Nat.reduceEqDiff, Nat.reduceAdd, Int.reduceLT, Int.reduceLE, Int.reduceEq]
    repeat' (refine BrF.mk (fun hb => ?_) (fun hb => ?_) <;> (try rw [hb]) <;> simp only [hid2, hid3, d1, d2, aw21, awH, ↓awD, awP, Nat.reduceLeDiff, Nat.reduceEqDiff, Nat.reduceAdd, Int.reduceLT, Int.reduceLE, Int.reduceEq])
    all_goals (refine Fin.end hcl rfl (by first | rfl | exact (List.append_nil _).symm | (simp only [List.append_assoc]; rfl)) ⟨?_, rfl⟩; simp only [badF, *, Bool.not_true, Bool.not_false, Bool.true_and, Bool.false_and, Bool.and_true, Bool.and_false, Bool.true_or, Bool.false_or, Bool.or_true, Bool.or_false])
  have d0 : decide ((l.length : Int) ≤ 256) = decide (l.length ≤ 256) := by rw [decide_eq_decide]; omega
  simp only [ac66, d0, awH, ↓awD, awP, Nat.reduceLeDiff, Nat.reduceEqDiff, Nat.reduceAdd, Int.reduceLT, Int.reduceLE, Int.reduceEq]
  repeat' (first | ((first | refine EvF.ret (hc _ _ _ (geta _ _ _) (by simp)) ?_ | refine EvRF.ret (hc _ _ _ (geta _ _ _) (by simp)) ?_); simp only [d0, aw21, awH, ↓awD, awP, Nat.reduceLeDiff, Nat.reduceEqDiff, Nat.reduceAdd, Int.reduceLT, Int.reduceLE, Int.reduceEq]) | (refine BrF.mk (fun hb => ?_) (fun hb => ?_) <;> (try rw [hb]) <;> simp only [d0, aw21, awH, ↓awD, awP, Nat.reduceLeDiff, Nat.reduceEqDiff, Nat.reduceAdd, Int.reduceLT, Int.reduceLE, Int.reduceEq]))
  all_goals (refine Fin.end hcl rfl (by first | rfl | exact (List.append_nil _).symm | (simp only [List.append_assoc]; rfl)) ⟨?_, rfl⟩; simp only [fieldsT, *, Bool.not_true, Bool.not_false, Bool.true_and, Bool.false_and, Bool.and_true, Bool.and_false, Bool.true_or, Bool.false_or, Bool.or_true, Bool.or_false])

def namesT (r : Dsc) : Bool :=
  (decide (r.names.length ≤ 256) && decide (r.more.length ≤ 256)) && (onceT (r.fields.map (·.name)) && (onceT (r.names ++ r.more) && (decide (decide (r.kind = 3) = decide (0 < r.names.length)) && (decide (r.kind = 3) || decide (r.more.length = 0)))))
theorem names2_ev (r : Dsc) (hm : BD (2 ^ 30) r) (h : List AObj) : EvR E0 64 [dscv r] h (boolv (namesT r)) := by
  refine ev_of (fn := Tryz.f64) (hs := [(5, 0), (5, 5)]) Tryz.func64 c64 (by simp) fun hcl => ?_
  have hfl : r.parts.length + r.adds.length ≤ 2 ^ 40 := by have := hm.2.2.2.2.1; have := hm.2.2.2.2.2.1; omega
  have l8 := mxB_len r.names
  have l9 := mxB_len r.more
  have b8 := hm.2.2.1
  have b9 := hm.2.2.2.1
  have hfl2 : r.fields.length < 2 ^ 41 := by simp only [Dsc.fields, List.length_append]; omega
  have hc1 : ∀ h, EvR E0 46 [.sl .full [fldl r.parts, fldl r.adds]] h (fldl r.fields) := fun h => by
    have := flds_cat [r.parts, r.adds] h (by simp) (by simpa using hfl)
    rw [show [r.parts, r.adds].flatten = r.fields by simp [Dsc.fields]] at this
    exact this
  have hc2 : ∀ h, EvR E0 79 [.sl .full [strl r.names, strl r.more]] h (strl (r.names ++ r.more)) := fun h => by
    have := strs_cat [r.names, r.more] h (by simp) (by simp; omega)
    rw [show [r.names, r.more].flatten = r.names ++ r.more by simp] at this
    exact this
  have ho1 := fun h => once_ev (r.fields.map (·.name)) (by rw [List.length_map]; omega) h
  have ho2 := fun h => once_ev (r.names ++ r.more) (by rw [List.length_append]; omega) h
  simp only [ac64, dscv_eq, awH, ↓awD, awP, Nat.reduceLeDiff, Nat.reduceEqDiff, Nat.reduceAdd, Int.reduceLT, Int.reduceLE, Int.reduceEq]
  repeat' (first | ((first | refine EvF.ret (hc1 _) ?_ | refine EvRF.ret (hc1 _) ?_); simp only [aw21, aw21, awH, ↓awD, awP, Nat.reduceLeDiff, Nat.reduceEqDiff, Nat.reduceAdd, Int.reduceLT, Int.reduceLE, Int.reduceEq]) | (refine Need.mk (by simp only [litParts, List.mem_cons, List.not_mem_nil, or_false, forall_eq_or_imp, forall_eq]; refine ⟨by decide, by decide, by decide, ?_⟩; repeat' (first | exact ⟨rfl, rfl, rfl⟩ | rfl | constructor)) ?_; simp only [aw21, awH, ↓awD, awP, Nat.reduceLeDiff, Nat.reduceEqDiff, Nat.reduceAdd, Int.reduceLT, Int.reduceLE, Int.reduceEq]))
  generalize hoo : AObj.cells [i64 r.kind, boolv r.ext, rgl r.set, i64 r.lo, i64 r.hi, str r.frm, strl r.names, strl r.more, fldl r.parts, fldl r.adds, intl r.order, i64 r.elem] = oR
  refine LoopF.list r.fields (by omega) (γ := Cap × List AObj) (fun i g => ⟨[(1, .ref h.length 0), (3, .sl g.1 (((r.fields.take i).map (·.name)).map str)), (13, fldl r.fields), (14, i64 r.fields.length), (15, i64 i)], h ++ [oR] ++ g.2⟩)
    (fun i g => g.1 = .own 1 ∨ g.1 = .full) (.full, []) (.inr rfl) (weak_of (by simp) (by simp [look])) ?_ ?_
  · rintro i f ⟨c, J⟩ ha hc hi e1 w3
    simp only at hc
    have hga := map_get fldv r.fields i f ha
    have htk : (r.fields.take (i + 1)).map (·.name) = (r.fields.take i).map (·.name) ++ [f.name] := by rw [List.take_add_one, ha, List.map_append]; rfl
    have htl : (r.fields.take i).length ≤ 2 ^ 41 := by have := List.length_take_le i r.fields; omega
    simp only [e1, w3, getJ, setJ, awH, ↓awD, awP, Nat.reduceLeDiff, Nat.reduceEqDiff, Nat.reduceAdd, Int.reduceLT, Int.reduceLE, Int.reduceEq]
    ((try refine Need.mk (by first | (first | omega | (simp only [awO] at *; omega) | (simp; omega)) | (constructor <;> (first | omega | (simp only [awO] at *; omega) | (simp; omega)))) ?_); refine Elem.recs hga (by first | (rw [fldv_eq]; exact ⟨rfl, rfl⟩) | exact ⟨rfl, rfl⟩) ?_; simp only [fldv_eq, w3, getJ, setJ, aw21, awH, ↓awD, awP, Nat.reduceLeDiff, Nat.reduceEqDiff, Nat.reduceAdd, Int.reduceLT, Int.reduceLE, Int.reduceEq])
    (refine Need.mk (by simp only [litParts, List.mem_cons, List.not_mem_nil, or_false, forall_eq_or_imp, forall_eq]; refine ⟨by decide, by decide, by decide, ?_⟩; repeat' (first | exact ⟨rfl, rfl, rfl⟩ | rfl | constructor)) ?_; simp only [w3, awH, ↓awD, awP, Nat.reduceLeDiff, Nat.reduceEqDiff, Nat.reduceAdd, Int.reduceLT, Int.reduceLE, Int.reduceEq])
    refine Need.mk (by (repeat' apply And.intro) <;> first | decide | rfl | exact hc.imp id (fun h => ⟨h, fit_strs _⟩) | exact fit_str _ | exact one_str _ | ((try simp only [List.length_map, List.length_cons, List.length_nil]); omega)) ?_
    simp only [w3, awH, ↓awD, awP, Nat.reduceLeDiff, Nat.reduceEqDiff, Nat.reduceAdd, Int.reduceLT, Int.reduceLE, Int.reduceEq]
    refine ⟨(i + 1, .own 1, J ++ [AObj.cells [str f.name, i64 f.t, boolv f.opt, vall f.dfl]]), ⟨hi, .inl rfl⟩, by simp only; omega, weak_of (List.append_assoc ..).symm ?_⟩
    simp [look, htk]
  · rintro ⟨c, J⟩ hc e1
    rw [List.take_length]
    subst hoo
    have g0 : ∀ J : List AObj, (h ++ [AObj.cells [i64 r.kind, boolv r.ext, rgl r.set, i64 r.lo, i64 r.hi, str r.frm, strl r.names, strl r.more, fldl r.parts, fldl r.adds, intl r.order, i64 r.elem]] ++ J)[h.length]? = some (AObj.cells [i64 r.kind, boolv r.ext, rgl r.set, i64 r.lo, i64 r.hi, str r.frm, strl r.names, strl r.more, fldl r.parts, fldl r.adds, intl r.order, i64 r.elem]) := fun J => by simp
    have d1 : decide ((r.names.length : Int) ≤ 256) = decide (r.names.length ≤ 256) := by rw [decide_eq_decide]; omega
    have d2 : decide ((r.more.length : Int) ≤ 256) = decide (r.more.length ≤ 256) := by rw [decide_eq_decide]; omega
    have d3 : decide ((0 : Int) < (r.names.length : Int)) = decide (0 < r.names.length) := by rw [decide_eq_decide]; omega
    have d4 : decide ((r.more.length : Int) = 0) = decide (r.more.length = 0) := by rw [decide_eq_decide]; omega
    have ho3 : ∀ h, EvR E0 78 [AV.strip (.sl c ((r.fields.map (·.name)).map str))] h (boolv (onceT (r.fields.map (·.name)))) := fun h => by
      rcases hc with rfl | rfl
      · exact ho1 h
      · refine (ho1 h).high ?_
        show [AV.sl Cap.unk (lows _)] = [_]
        rw [lows_map, List.map_map]; rfl
    generalize hsl : AV.strip (.sl c ((r.fields.map (·.name)).map str)) = aS at ho3
    have hs2 : aS.strip = aS := by rw [← hsl]; rcases hc with rfl | rfl <;> rfl
    simp only [e1, g0, hsl, hs2, d1, d2, d3, d4, awH, ↓awD, awP, Nat.reduceLeDiff, Nat.reduceEqDiff, Nat.reduceAdd, Int.reduceLT, Int.reduceLE, Int.reduceEq]
    repeat' (first | ((first | refine EvF.ret (hc2 _) ?_ | refine EvRF.ret (hc2 _) ?_); simp only [g0, hsl, hs2, d1, d2, d3, d4, aw21, awH, ↓awD, awP, Nat.reduceLeDiff, Nat.reduceEqDiff, Nat.reduceAdd, Int.reduceLT, Int.reduceLE, Int.reduceEq]) | ((first | refine EvF.ret (ho3 _) ?_ | refine EvRF.ret (ho3 _) ?_); simp only [g0, hsl, hs2, d1, d2, d3, d4, aw21, awH, ↓awD, awP, Nat.reduceLeDiff, Nat.reduceEqDiff, Nat.reduceAdd, Int.reduceLT, Int.reduceLE, Int.reduceEq]) | ((first | refine EvF.ret (ho2 _) ?_ | refine EvRF.ret (ho2 _) ?_); simp only [g0, hsl, hs2, d1, d2, d3, d4, aw21, awH, ↓awD, awP, Nat.reduceLeDiff, Nat.reduceEqDiff, Nat.reduceAdd, Int.reduceLT, Int.reduceLE, Int.reduceEq]) | (refine Need.mk (by simp only [litParts, List.mem_cons, List.not_mem_nil, or_false, forall_eq_or_imp, forall_eq]; refine ⟨by decide, by decide, by decide, ?_⟩; repeat' (first | exact ⟨rfl, rfl, rfl⟩ | rfl | constructor)) ?_; simp only [g0, hsl, hs2, d1, d2, d3, d4, awH, ↓awD, awP, Nat.reduceLeDiff, Nat.reduceEqDiff, Nat.reduceAdd, Int.reduceLT, Int.reduceLE, Int.reduceEq]) | (refine BrF.mk (fun hb => ?_) (fun hb => ?_) <;> (try rw [hb]) <;> simp only [g0, hsl, hs2, d1, d2, d3, d4, aw21, awH, ↓awD, awP, Nat.reduceLeDiff, Nat.reduceEqDiff, Nat.reduceAdd, Int.reduceLT, Int.reduceLE, Int.reduceEq]))
    all_goals (refine Fin.end hcl rfl (by first | rfl | exact (List.append_nil _).symm | (simp only [List.append_assoc]; rfl)) ⟨?_, rfl⟩; clear hcl hc1 hc2 ho1 ho2 ho3 g0; first | (simp only [namesT, *, Bool.not_true, Bool.not_false, Bool.true_and, Bool.false_and, Bool.and_true, Bool.and_false, Bool.true_or, Bool.false_or, Bool.or_true, Bool.or_false]; done) | (simp_all [namesT]; done) | (clear d1 d2 d3 d4; simp only [namesT]; generalize decide (r.kind = 3) = b1 at *; generalize decide (0 < r.names.length) = b2 at *; generalize decide (r.more.length = 0) = b3 at *; generalize decide (r.names.length ≤ 256) = b4 at *; generalize decide (r.more.length ≤ 256) = b5 at *; cases b1 <;> cases b2 <;> simp_all))
end Go.Abs.Fr
