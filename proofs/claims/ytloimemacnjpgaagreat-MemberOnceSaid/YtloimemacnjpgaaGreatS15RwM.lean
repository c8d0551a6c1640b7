/- The rows' common part: tables and values, as they are read. -/
import Derived.Test.YtloimemacnjpgaaGreatS15RdV
import Derived.Test.YtloimemacnjpgaaGreatS15Mb3
import Derived.Test.YtloimemacnjpgaaGreatRows
import Derived.SizedLaws
import Derived.ChangeSame
import Derived.ChangeVars
import Derived.ChangeSlices
import Derived.ChangeMaps5
import Derived.Carry
import Derived.JoinedOf
import Derived.JoinedAt
import Derived.RowKit
import Derived.RowKit3
import Derived.RowKitTokens
import Derived.LaidLaws
import Derived.ProofKit
set_option linter.all false
namespace Go.Proofs.YtloimemacnjpgaaGreat
open Go.ChangeShapes Go.WideShapes Go.ChangeAt Go.RowKit

theorem Tryz.own : ownKnob Tryz.prog.godebug = none := by kernel_rfl
theorem Tryz.laidOut : laidOutB Tryz.prog = true := by kernel_rfl
theorem glOk_none {W : World} : Go.Abs.GlOk Go.Abs.Fr.E0 W (Go.Abs.Gh.all W) := fun i cs hi => by cases hi
theorem val_struct : ∃ fs, Tryz.prog.underlying 26 = some (.struct fs) := by
  have h := Go.Abs.Fr.sVal
  unfold Go.Abs.onesIs at h
  split at h
  · rename_i fs hfs; exact ⟨_, hfs⟩
  · cases h
set_option maxRecDepth 100000 in
/-- A value, as it is read, stands for one. -/
theorem val_args {H : Type} {enc : TypeId × Value → H} {W : World} {base : Nat} {v : Value} {d : DataW H} {ps : List MemPlace} (hval : Value.okWide Tryz.prog W .any base 26 v) (h : DataW.Trod enc Tryz.prog W 0 (fun _ => true) true 26 v d ps)
    (hw : (d.weights Tryz.prog 26).all (· ≤ reachBytes) = true) :
    ∃ l : Go.Abs.Fr.Val, Go.Abs.Fr.mxV l ≤ 2 ^ 47 ∧ Go.Abs.Rep W (Go.Abs.Gh.all W) 0 (Go.Abs.Fr.valv l) v := by
  obtain ⟨fuel, hf⟩ := h
  obtain ⟨a, ha, v', hv', hr⟩ := Go.Abs.Fr.rd_val fuel _ _ hf hw
  refine ⟨a, Nat.le_trans ha (by unfold reachBytes; decide), ?_⟩
  obtain ⟨fs, hfs⟩ := val_struct
  obtain ⟨cs, rfl, -⟩ := okWide_struct hfs hval
  have hr' := hr
  rw [Go.Abs.Fr.valv_eq] at hr'; simp only [Go.Abs.Rep] at hr'
  obtain ⟨vs, rfl, -⟩ := hr'
  have he : vs = cs := Array.toList_inj.1 hv'
  rw [← he]; exact hr
set_option maxRecDepth 100000 in
/-- A table, as it is read, stands for one. -/
theorem tab_args {H : Type} {enc : TypeId × Value → H} {W : World} {base : Nat} {v : Value} {d : DataW H} {ps : List MemPlace} (hval : Value.okWide Tryz.prog W .any base 22 v) (h : DataW.Trod enc Tryz.prog W 0 (fun _ => true) true 22 v d ps)
    (hw : (d.weights Tryz.prog 22).all (· ≤ reachBytes) = true) :
    ∃ l : List Go.Abs.Fr.Dsc, Go.Abs.Fr.Wide l ∧ Go.Abs.Rep W (Go.Abs.Gh.all W) 0 (Go.Abs.Fr.dscl l) v := by
  obtain ⟨fuel, hf⟩ := h
  obtain ⟨a, ha, v', hv', hr⟩ := Go.Abs.Fr.rd_dscs fuel _ _ hf hw
  have hrb : reachBytes ≤ 2 ^ 47 := by unfold reachBytes; decide
  refine ⟨a, ⟨Nat.le_trans ha.1 hrb, fun r hr => ?_⟩, ?_⟩
  · obtain ⟨h1, h2, h3, h4, h5, h6, h7, h8⟩ := ha.2 r hr
    exact ⟨by omega, by omega, by omega, by omega, by omega, by omega, by omega, fun f hf => ⟨Nat.le_trans (h8 f hf).1 hrb, Nat.le_trans (h8 f hf).2 hrb⟩⟩
  · obtain ⟨a0, len, cap, rfl⟩ := okWide_slice Go.Abs.Fr.uDscs hval
    have hr' := hr
    simp only [Go.Abs.Rep] at hr'
    obtain ⟨base, len', cap', rfl, -⟩ := hr'
    have he : Value.slice base len' cap' = .slice a0 len cap := by simpa [Value.cells] using hv'
    rw [← he]; exact hr
theorem argsOk2 {W : World} {g : Go.Abs.Gh} {a b : Go.Abs.AV} {v u : Value} (h : Go.Abs.Rep W g 0 a v) (hs : ∀ s, Go.Abs.SpareOk W g 0 s a v) (h' : Go.Abs.Rep W g 0 b u) (hs' : ∀ s, Go.Abs.SpareOk W g 0 s b u) : Go.Abs.argsOk W g 0 [a, b] #[v, u] := by
  refine ⟨rfl, fun i av hi => ?_⟩
  match i, hi with
  | 0, hi => cases hi; exact ⟨_, rfl, h, hs _⟩
  | 1, hi => cases hi; exact ⟨_, rfl, h', hs' _⟩
theorem argsOk3 {W : World} {g : Go.Abs.Gh} {a b c : Go.Abs.AV} {v u x : Value} (h : Go.Abs.Rep W g 0 a v) (hs : ∀ s, Go.Abs.SpareOk W g 0 s a v) (h' : Go.Abs.Rep W g 0 b u) (hs' : ∀ s, Go.Abs.SpareOk W g 0 s b u) (h'' : Go.Abs.Rep W g 0 c x) (hs'' : ∀ s, Go.Abs.SpareOk W g 0 s c x) : Go.Abs.argsOk W g 0 [a, b, c] #[v, u, x] := by
  refine ⟨rfl, fun i av hi => ?_⟩
  match i, hi with
  | 0, hi => cases hi; exact ⟨_, rfl, h, hs _⟩
  | 1, hi => cases hi; exact ⟨_, rfl, h', hs' _⟩
  | 2, hi => cases hi; exact ⟨_, rfl, h'', hs'' _⟩
end Go.Proofs.YtloimemacnjpgaaGreat

namespace Go.Abs.Fr
open Go Go.Abs Go.Proofs
set_option linter.unusedSimpArgs false
set_option maxRecDepth 100000

/-- The names of what is chosen. -/
def chN : List Fld → List (Option Val) → List ByteArray
  | f :: fs, some _ :: c => f.name :: chN fs c
  | _ :: fs, none :: c => chN fs c
  | _, _ => []
def chOkW (B : Int → Val → Bool) (np : Nat) : Nat → List Fld → List (Option Val) → Prop
  | i, f :: fs, some y :: c => B f.t y = true ∧ chOkW B np (i + 1) fs c
  | i, f :: fs, none :: c => must np i f = false ∧ chOkW B np (i + 1) fs c
  | _, [], [] => True
  | _, _, _ => False
theorem chOkW_len {B : Int → Val → Bool} {np : Nat} : ∀ {i : Nat} {fs : List Fld} {c : List (Option Val)}, chOkW B np i fs c → c.length = fs.length
  | i, f :: fs, some y :: c, h => by simp [chOkW_len h.2]
  | i, f :: fs, none :: c, h => by simp [chOkW_len h.2]
  | _, [], [], _ => rfl
  | _, [], _ :: _, h => h.elim
  | _, _ :: _, [], h => h.elim
theorem chN_sub : ∀ (fs : List Fld) (c : List (Option Val)) (x : ByteArray), x ∈ chN fs c → ∃ f, f ∈ fs ∧ f.name = x
  | f :: fs, some _ :: c, x, h => by
    simp only [chN, List.mem_cons] at h
    rcases h with rfl | h
    · exact ⟨f, List.mem_cons_self, rfl⟩
    · obtain ⟨g, hg, e⟩ := chN_sub fs c x h; exact ⟨g, List.mem_cons_of_mem _ hg, e⟩
  | f :: fs, none :: c, x, h => by
    simp only [chN] at h
    obtain ⟨g, hg, e⟩ := chN_sub fs c x h; exact ⟨g, List.mem_cons_of_mem _ hg, e⟩
  | [], _, x, h => by simp [chN] at h
  | _ :: _, [], x, h => by simp [chN] at h
theorem chN_len : ∀ (fs : List Fld) (c : List (Option Val)), c.length = fs.length → (chN fs c).length = (c.filterMap id).length
  | f :: fs, some _ :: c, h => by simp [chN, chN_len fs c (by simpa using h)]
  | f :: fs, none :: c, h => by simp [chN, chN_len fs c (by simpa using h)]
  | [], [], _ => rfl
  | [], _ :: _, h => by simp at h
  | _ :: _, [], h => by simp at h
/-- Names that are each there once. -/
def Dist (fs : List Fld) : Prop := (fs.map (·.name)).Nodup
theorem Dist.cons {f : Fld} {fs : List Fld} (h : Dist (f :: fs)) : (∀ g, g ∈ fs → g.name ≠ f.name) ∧ Dist fs := by
  simp only [Dist, List.map_cons, List.nodup_cons] at h
  exact ⟨fun g hg he => h.1 (List.mem_map.2 ⟨g, hg, he⟩), h.2⟩
theorem seqW_nil_to {B : Int → Val → Bool} {np : Nat} : ∀ (fs : List Fld) (i : Nat) (l : List Val), seqW B np i fs [] l = true → ∃ c, chOkW B np i fs c ∧ chN fs c = [] ∧ c.filterMap id = []
  | [], i, l, _ => ⟨[], trivial, rfl, rfl⟩
  | f :: fs, i, l, h => by
    simp only [seqW, Bool.and_eq_true, Bool.not_eq_true'] at h
    obtain ⟨c, h1, h2, h3⟩ := seqW_nil_to fs (i + 1) l h.2
    exact ⟨none :: c, ⟨h.1, h1⟩, by simpa [chN] using h2, by simpa using h3⟩
theorem seqW_to {B : Int → Val → Bool} {np : Nat} : ∀ (fs : List Fld) (i : Nat) (ns : List ByteArray) (l : List Val), ns.length = l.length → seqW B np i fs ns l = true → ∃ c, chOkW B np i fs c ∧ chN fs c = ns ∧ c.filterMap id = l
  | [], i, ns, l, hl, h => by
    simp only [seqW, decide_eq_true_eq, List.length_eq_zero_iff] at h
    subst h
    have : l = [] := List.eq_nil_of_length_eq_zero hl.symm
    subst this
    exact ⟨[], trivial, rfl, rfl⟩
  | f :: fs, i, [], l, hl, h => by
    have : l = [] := List.eq_nil_of_length_eq_zero hl.symm
    subst this
    exact seqW_nil_to (f :: fs) i [] h
  | f :: fs, i, x :: xs, [], hl, h => by simp at hl
  | f :: fs, i, x :: xs, y :: ys, hl, h => by
    simp only [seqW] at h
    by_cases hx : x = f.name
    · simp only [hx, decide_true, if_true, Bool.and_eq_true, List.tail_cons] at h
      obtain ⟨c, h1, h2, h3⟩ := seqW_to fs (i + 1) xs ys (by simpa using hl) h.2
      exact ⟨some y :: c, ⟨h.1, h1⟩, by simp [chN, h2, hx], by simp [h3]⟩
    · simp only [hx, decide_false, Bool.false_eq_true, if_false, Bool.and_eq_true, Bool.not_eq_true'] at h
      obtain ⟨c, h1, h2, h3⟩ := seqW_to fs (i + 1) (x :: xs) (y :: ys) hl h.2
      exact ⟨none :: c, ⟨h.1, h1⟩, by simpa [chN] using h2, by simpa using h3⟩
theorem seqW_of {B : Int → Val → Bool} {np : Nat} : ∀ (fs : List Fld) (i : Nat) (c : List (Option Val)), Dist fs → chOkW B np i fs c → seqW B np i fs (chN fs c) (c.filterMap id) = true
  | [], i, [], _, _ => rfl
  | [], i, _ :: _, _, h => h.elim
  | _ :: _, i, [], _, h => h.elim
  | f :: fs, i, some y :: c, hd, h => by
    have ih := seqW_of fs (i + 1) c hd.cons.2 h.2
    simp only [chN, List.filterMap_cons, id, seqW, decide_true, if_true, h.1, Bool.true_and, List.tail_cons]
    exact ih
  | f :: fs, i, none :: c, hd, h => by
    have ih := seqW_of fs (i + 1) c hd.cons.2 h.2
    simp only [chN, List.filterMap_cons, id]
    cases hc : chN fs c with
    | nil =>
      rw [hc] at ih
      simp only [seqW, h.1, Bool.not_false, Bool.true_and]
      exact ih
    | cons x xs =>
      rw [hc] at ih
      have hx : x ≠ f.name := by
        obtain ⟨g, hg, e⟩ := chN_sub fs c x (by rw [hc]; exact List.mem_cons_self)
        rw [← e]; exact hd.cons.1 g hg
      simp only [seqW, hx, decide_false, Bool.false_eq_true, if_false, h.1, Bool.not_false, Bool.true_and]
      exact ih
/-- The names tell what was chosen. -/
theorem ch_unique : ∀ (fs : List Fld) (c c' : List (Option Val)), Dist fs → c.length = fs.length → c'.length = fs.length → chN fs c = chN fs c' → c.filterMap id = c'.filterMap id → c = c'
  | [], [], [], _, _, _, _, _ => rfl
  | [], _ :: _, _, _, h, _, _, _ => by simp at h
  | [], [], _ :: _, _, _, h, _, _ => by simp at h
  | _ :: _, [], _, _, h, _, _, _ => by simp at h
  | _ :: _, _ :: _, [], _, _, h, _, _ => by simp at h
  | f :: fs, some y :: c, some y' :: c', hd, h1, h2, h3, h4 => by
    simp only [chN, List.cons.injEq, true_and, List.filterMap_cons, id] at h3 h4
    rw [h4.1, ch_unique fs c c' hd.cons.2 (by simpa using h1) (by simpa using h2) h3 h4.2]
  | f :: fs, none :: c, none :: c', hd, h1, h2, h3, h4 => by
    simp only [chN, List.filterMap_cons, id] at h3 h4
    rw [ch_unique fs c c' hd.cons.2 (by simpa using h1) (by simpa using h2) h3 h4]
  | f :: fs, some y :: c, none :: c', hd, h1, h2, h3, h4 => by
    simp only [chN] at h3
    obtain ⟨g, hg, e⟩ := chN_sub fs c' f.name (by rw [← h3]; exact List.mem_cons_self)
    exact absurd e (hd.cons.1 g hg)
  | f :: fs, none :: c, some y :: c', hd, h1, h2, h3, h4 => by
    simp only [chN] at h3
    obtain ⟨g, hg, e⟩ := chN_sub fs c f.name (by rw [h3]; exact List.mem_cons_self)
    exact absurd e (hd.cons.1 g hg)
end Go.Abs.Fr

namespace Go.Abs.Fr
open Go Go.Abs Go.Proofs
set_option linter.unusedSimpArgs false
set_option maxRecDepth 100000

theorem row_facts2 {r : Dsc} {n : Nat} (h : rowT r n = true) : 1 ≤ r.kind ∧ r.kind ≤ 10 := by
  simp only [rowT, bifF, Bool.and_eq_true, Bool.not_eq_true', Bool.or_eq_false_iff, decide_eq_false_iff_not] at h
  omega
theorem tab_rows {d : List Dsc} (h : rightT d = true) : ∀ r, r ∈ d → rowT r d.length = true := by
  simp only [rightT, tabT, Bool.and_eq_true, Bool.not_eq_true', List.any_eq_false, Bool.not_eq_false] at h
  exact fun r hr => by simpa using h.1.2.2 r hr
theorem tab_dist {d : List Dsc} (h : rightT d = true) : ∀ r, r ∈ d → Dist r.fields := fun r hr => by
  obtain ⟨_, h2, _⟩ := row_facts (tab_rows h r hr)
  simp only [namesT, Bool.and_eq_true] at h2
  exact ((onceW_iff _ _).1 h2.2.1).2
theorem rowAt_mem {d : List Dsc} {t : Int} (h : inT d t) : rowAt d t ∈ d := List.mem_of_getElem? (rowAt_get h)

/-- What the parts of a value of a row are. -/
theorem kind_elems {B : Int → Val → Bool} {r : Dsc} {v : Val} (hb : bareV v = true) (hk : v.kind = r.kind) (h : kindF B r v = true) : ∀ x, x ∈ v.l → ∃ t, B t x = true := by
  intro x hx
  by_cases h8 : r.kind = 8
  · simp only [kindF, h8, Int.reduceEq, decide_true, decide_false, cond_true, cond_false, seqF, Bool.and_eq_true, decide_eq_true_eq] at h
    obtain ⟨c, h1, h2, h3⟩ := seqW_to _ _ _ _ h.1 h.2
    rw [← h3] at hx
    clear h h2 h3
    generalize r.parts.length = np at h1
    generalize 0 = i at h1
    generalize r.fields = fs at h1
    induction c generalizing fs i with
    | nil => simp at hx
    | cons o c ih =>
      cases fs with
      | nil => exact h1.elim
      | cons f fs =>
        cases o with
        | none =>
          simp only [List.filterMap_cons, id] at hx
          exact ih hx _ _ h1.2
        | some y =>
          simp only [List.filterMap_cons, id, List.mem_cons] at hx
          rcases hx with rfl | hx
          · exact ⟨f.t, h1.1⟩
          · exact ih hx _ _ h1.2
  by_cases h10 : r.kind = 10
  · simp only [kindF, h10, Int.reduceEq, decide_true, decide_false, cond_true, cond_false, choF] at h
    split at h
    · cases h
    · rename_i f _
      simp only [Bool.and_eq_true, decide_eq_true_eq] at h
      obtain ⟨y, hy⟩ : ∃ y, v.l = [y] := List.length_eq_one_iff.1 h.1
      rw [hy] at hx h
      simp only [List.mem_singleton] at hx
      subst hx
      exact ⟨f.t, by simpa [oneF] using h.2⟩
  by_cases h9 : r.kind = 9
  · simp only [kindF, h9, Int.reduceEq, decide_true, decide_false, cond_true, cond_false, Bool.and_eq_true, Bool.not_eq_true', List.any_eq_false, Bool.not_eq_false] at h
    exact ⟨r.elem, by simpa using h.2 x hx⟩
  · exfalso
    simp only [bareV, Bool.and_eq_true] at hb
    have hp : parted v.kind = false := by rw [hk]; simp [parted, h8, h9, h10]
    have := hb.1.1.2
    simp only [hp, Bool.false_or, decide_eq_true_eq, List.length_eq_zero_iff] at this
    rw [this] at hx; cases hx
theorem has_deep {d : List Dsc} : ∀ (k : Nat) (t : Int) (v : Val), hasV d k t v = true → deepV k v = false := by
  intro k
  induction k with
  | zero =>
    intro t v h
    obtain ⟨h1, h2, _⟩ := hasF_kind h
    show parted v.kind = false
    rw [h1]; exact h2 rfl
  | succ k ih =>
    intro t v h
    obtain ⟨h1, _, h3, h4⟩ := hasF_kind h
    simp only [deepV, Bool.and_eq_false_iff, List.any_eq_false]
    right
    intro x hx
    obtain ⟨t', ht'⟩ := kind_elems h3 h1 h4 x hx
    simp [ih t' x ht']
theorem check_iff {d : List Dsc} {v : Val} : checkT d v = 0 ↔ rightT d = true ∧ hasV d 40 0 v = true := by
  constructor
  · intro h; exact ⟨(check0 h).1, (check0 h).2.2⟩
  · rintro ⟨h1, h2⟩
    simp [checkT, h1, h2, has_deep 40 0 v h2]
/-- A value's row has its kind. -/
theorem check_kind {d : List Dsc} {v : Val} (h : checkT d v = 0) : v.kind = (rowAt d 0).kind ∧ bareV v = true ∧ kindF (hasV d 39) (rowAt d 0) v = true := by
  obtain ⟨h1, h2⟩ := check_iff.1 h
  obtain ⟨a, _, b, c⟩ := hasF_kind h2
  exact ⟨a, b, c⟩
def Val.setK (v : Val) (k : Int) (hk : InR k) : Val := .mk k v.n v.s v.names v.l ⟨hk, v.ok.2⟩
def Val.setN (v : Val) (ns : List ByteArray) : Val := .mk v.kind v.n v.s ns v.l v.ok
def Val.setL (v : Val) (l : List Val) : Val := .mk v.kind v.n v.s v.names l v.ok
theorem set_eq (v : Val) (k : Int) (hk : InR k) (ns : List ByteArray) (l : List Val) :
    ((v.setK k hk).kind = k ∧ (v.setK k hk).n = v.n ∧ (v.setK k hk).s = v.s ∧ (v.setK k hk).names = v.names ∧ (v.setK k hk).l = v.l) ∧
    ((v.setN ns).kind = v.kind ∧ (v.setN ns).n = v.n ∧ (v.setN ns).s = v.s ∧ (v.setN ns).names = ns ∧ (v.setN ns).l = v.l) ∧
    ((v.setL l).kind = v.kind ∧ (v.setL l).n = v.n ∧ (v.setL l).s = v.s ∧ (v.setL l).names = v.names ∧ (v.setL l).l = l) ∧
    (val0.kind = 0 ∧ val0.n = 0 ∧ val0.s = ⟨#[]⟩ ∧ val0.names = [] ∧ val0.l = []) :=
  ⟨⟨rfl, rfl, rfl, rfl, rfl⟩, ⟨rfl, rfl, rfl, rfl, rfl⟩, ⟨rfl, rfl, rfl, rfl, rfl⟩, ⟨rfl, rfl, rfl, rfl, rfl⟩⟩
theorem kinds_k {d : List Dsc} {v : Val} (h : checkT d v = 0) {k : Int} (hk : InR k) (hne : k ≠ v.kind) : checkT d (v.setK k hk) ≠ 0 := by
  intro h2
  have h3 := (check_kind h).1
  have h4 := (check_kind h2).1
  rw [(set_eq v k hk [] []).1.1] at h4
  exact hne (by rw [h4, ← h3])
theorem kinds_n {d : List Dsc} {v : Val} (h : checkT d v = 0) (x : ByteArray) : checkT d (v.setN (v.names ++ [x])) ≠ 0 := by
  intro h2
  obtain ⟨a1, b1, c1⟩ := check_kind h
  obtain ⟨a2, b2, c2⟩ := check_kind h2
  by_cases h8 : v.kind = 8
  · rw [h8] at a1
    simp only [kindF, ← a1, Int.reduceEq, decide_true, decide_false, cond_true, cond_false, seqF, Bool.and_eq_true, decide_eq_true_eq] at c1 c2
    have t1 := c1.1
    have this := c2.1
    have e := (set_eq v 0 (by unfold InR; decide) (v.names ++ [x]) []).2.1
    rw [e.2.2.2.1, e.2.2.2.2, List.length_append] at this
    simp at this; omega
  · have e := (set_eq v 0 (by unfold InR; decide) (v.names ++ [x]) []).2.1
    simp only [bareV, e, Bool.and_eq_true, Bool.or_eq_true, decide_eq_true_eq] at b2
    rcases b2.2 with h | h
    · exact h8 h
    · simp at h
theorem kinds_l {d : List Dsc} {v : Val} (h : checkT d v = 0) : checkT d (v.setL (v.l ++ [val0])) ≠ 0 := by
  intro h2
  obtain ⟨a1, b1, c1⟩ := check_kind h
  obtain ⟨a2, b2, c2⟩ := check_kind h2
  obtain ⟨hr, _⟩ := check_iff.1 h
  by_cases h8 : v.kind = 8
  · rw [h8] at a1
    simp only [kindF, ← a1, Int.reduceEq, decide_true, decide_false, cond_true, cond_false, seqF, Bool.and_eq_true, decide_eq_true_eq] at c1 c2
    have t1 := c1.1
    have this := c2.1
    have e := (set_eq v 0 (by unfold InR; decide) [] (v.l ++ [val0])).2.2.1
    rw [e.2.2.2.1, e.2.2.2.2, List.length_append] at this
    simp at this; omega
  by_cases h10 : v.kind = 10
  · rw [h10] at a1
    simp only [kindF, ← a1, Int.reduceEq, decide_true, decide_false, cond_true, cond_false, choF] at c1 c2
    split at c1
    · cases c1
    · split at c2
      · cases c2
      · simp only [Bool.and_eq_true, decide_eq_true_eq] at c1 c2
        have t1 := c1.1
        have t2 := c2.1
        have e := (set_eq v 0 (by unfold InR; decide) [] (v.l ++ [val0])).2.2.1
        rw [e.2.2.2.2, List.length_append, List.length_singleton] at t2
        omega
  by_cases h9 : v.kind = 9
  · rw [h9] at a1
    simp only [kindF, ← a1, Int.reduceEq, decide_true, decide_false, cond_true, cond_false, Bool.and_eq_true, Bool.not_eq_true', List.any_eq_false, Bool.not_eq_false] at c2
    have e := (set_eq v 0 (by unfold InR; decide) [] (v.l ++ [val0])).2.2.1
    have h3 := c2.2 val0 (by rw [e.2.2.2.2]; simp)
    obtain ⟨hok, hpos⟩ := tab_ok hr
    have hin : inT d 0 := ⟨Int.le_refl _, by omega⟩
    have hin2 : inT d (rowAt d 0).elem := (hok.rows _ (rowAt_mem hin)).2
    have h4 : hasV d 39 (rowAt d 0).elem val0 = true := by simpa using h3
    have h5 := (hasF_kind h4).1
    have h6 := row_facts2 (tab_rows hr _ (rowAt_mem hin2))
    have h7 : val0.kind = 0 := rfl
    omega
  · have hp : parted v.kind = false := by simp [parted, h8, h9, h10]
    have e := (set_eq v 0 (by unfold InR; decide) [] (v.l ++ [val0])).2.2.1
    simp only [bareV, e, Bool.and_eq_true] at b2
    have := b2.1.1.2
    simp [hp] at this
end Go.Abs.Fr

namespace Go.Abs.Fr
open Go Go.Abs Go.Proofs
set_option linter.unusedSimpArgs false
set_option maxRecDepth 100000

def pk (N : List ByteArray) (L : List Val) (nm : ByteArray) (df : Option Val) : Option Val :=
  if 0 ≤ idx (fun x => decide (nm = x)) N 0 then L[(idx (fun x => decide (nm = x)) N 0).toNat]? else df
theorem idx_shift {α : Type} (p : α → Bool) : ∀ (l : List α) (i : Nat), (idx p l i = -1 ∧ idx p l (i + 1) = -1) ∨ ((i : Int) ≤ idx p l i ∧ idx p l (i + 1) = idx p l i + 1)
  | [], i => .inl ⟨rfl, rfl⟩
  | a :: l, i => by
    cases hp : p a
    · simp only [idx, hp, Bool.false_eq_true, if_false]
      rcases idx_shift p l (i + 1) with ⟨h1, h2⟩ | ⟨h1, h2⟩
      · exact .inl ⟨h1, h2⟩
      · exact .inr ⟨by omega, h2⟩
    · simp only [idx, hp, if_true]
      exact .inr ⟨by omega, by omega⟩
theorem pk_eq {N : List ByteArray} {L : List Val} {nm : ByteArray} {y : Val} {df : Option Val} : pk (nm :: N) (y :: L) nm df = some y := by
  simp [pk, idx]
theorem pk_ne {N : List ByteArray} {L : List Val} {nm n : ByteArray} {y : Val} {df : Option Val} (h : nm ≠ n) : pk (n :: N) (y :: L) nm df = pk N L nm df := by
  simp only [pk, idx, h, decide_false, Bool.false_eq_true, if_false]
  rcases idx_shift (fun x => decide (nm = x)) N 0 with ⟨h1, h2⟩ | ⟨h1, h2⟩
  · rw [h1, h2]; simp
  · rw [h2, if_pos (by omega), if_pos (by omega)]
    obtain ⟨k, hk⟩ : ∃ k : Nat, idx (fun x => decide (nm = x)) N 0 = (k : Int) := ⟨_, (Int.toNat_of_nonneg (by omega)).symm⟩
    rw [hk, show ((k : Int) + 1).toNat = k + 1 by omega, Int.toNat_natCast, List.getElem?_cons_succ]
theorem pk_no {N : List ByteArray} {L : List Val} {nm : ByteArray} {df : Option Val} (h : nm ∉ N) : pk N L nm df = df := by
  have : decide (0 ≤ idx (fun x => decide (nm = x)) N 0) = false := by
    rw [idx_any, List.any_eq_false]; intro x hx; simp only [decide_eq_true_eq]; rintro rfl; exact h hx
  rw [pk, if_neg (of_decide_eq_false this)]
def sel (f : Fld) : Option Val → Option Val
  | some y => some y
  | none => f.dfl.head?
theorem pk_ch : ∀ (fs : List Fld) (c : List (Option Val)), Dist fs → c.length = fs.length → ∀ (j : Nat) f o, fs[j]? = some f → c[j]? = some o → pk (chN fs c) (c.filterMap id) f.name f.dfl.head? = sel f o
  | [], _, _, _, j, f, o, hf, _ => by simp at hf
  | _ :: _, [], _, _, j, f, o, _, ho => by simp at ho
  | f0 :: fs, none :: c, hd, hl, 0, f, o, hf, ho => by
    simp only [List.getElem?_cons_zero, Option.some.injEq] at hf ho
    subst hf ho
    simp only [chN, List.filterMap_cons, id, sel]
    refine pk_no fun hx => ?_
    obtain ⟨g, hg, e⟩ := chN_sub fs c _ hx
    exact hd.cons.1 g hg e
  | f0 :: fs, some y :: c, hd, hl, 0, f, o, hf, ho => by
    simp only [List.getElem?_cons_zero, Option.some.injEq] at hf ho
    subst hf ho
    simp only [chN, List.filterMap_cons, id, sel]
    exact pk_eq
  | f0 :: fs, none :: c, hd, hl, j + 1, f, o, hf, ho => by
    simp only [List.getElem?_cons_succ] at hf ho
    simp only [chN, List.filterMap_cons, id]
    exact pk_ch fs c hd.cons.2 (by simpa using hl) j f o hf ho
  | f0 :: fs, some y :: c, hd, hl, j + 1, f, o, hf, ho => by
    simp only [List.getElem?_cons_succ] at hf ho
    simp only [chN, List.filterMap_cons, id]
    rw [pk_ne (hd.cons.1 f (List.mem_of_getElem? hf))]
    exact pk_ch fs c hd.cons.2 (by simpa using hl) j f o hf ho

/-- What is chosen, with all defaults. -/
def nx (C : Int → Val → Val) : List Fld → List (Option Val) → List (Option Val)
  | f :: fs, o :: c => (sel f o).map (C f.t) :: nx C fs c
  | _, _ => []
theorem nx_len (C : Int → Val → Val) : ∀ (fs : List Fld) (c : List (Option Val)), c.length = fs.length → (nx C fs c).length = fs.length
  | [], [], _ => rfl
  | f :: fs, o :: c, h => by simp only [nx, List.length_cons, nx_len C fs c (by simpa using h)]
  | [], _ :: _, h => by simp at h
  | _ :: _, [], h => by simp at h
theorem can_nx (C : Int → Val → Val) (v : Val) : ∀ (fs : List Fld) (c : List (Option Val)), c.length = fs.length → (∀ (j : Nat) f o, fs[j]? = some f → c[j]? = some o → pick v f = sel f o) →
    canN v fs = chN fs (nx C fs c) ∧ canL C v fs = (nx C fs c).filterMap id
  | [], [], _, _ => ⟨rfl, rfl⟩
  | [], _ :: _, h, _ => by simp at h
  | _ :: _, [], h, _ => by simp at h
  | f :: fs, o :: c, h, hp => by
    obtain ⟨h1, h2⟩ := can_nx C v fs c (by simpa using h) fun j g o' hg ho => hp (j + 1) g o' (by simpa using hg) (by simpa using ho)
    have h0 := hp 0 f o rfl rfl
    simp only [canN] at h1 ⊢
    simp only [canL] at h2 ⊢
    simp only [List.filterMap_cons, h0, nx]
    cases hs : sel f o with
    | none => simp only [Option.map_none, chN, List.filterMap_cons, id]; exact ⟨h1, h2⟩
    | some y => simp only [Option.map_some, chN, List.filterMap_cons, id]; exact ⟨by rw [h1], by rw [h2]⟩
theorem nx_ok {B : Int → Val → Bool} {C : Int → Val → Val} {np : Nat} : ∀ (fs : List Fld) (c : List (Option Val)) (i : Nat), (∀ f, f ∈ fs → ∀ y, B f.t y = true → B f.t (C f.t y) = true) → (∀ f, f ∈ fs → ∀ x, x ∈ f.dfl → B f.t x = true) → chOkW B np i fs c → chOkW B np i fs (nx C fs c)
  | [], [], _, _, _, _ => trivial
  | [], _ :: _, _, _, _, h => h.elim
  | _ :: _, [], _, _, _, h => h.elim
  | f :: fs, some y :: c, i, hC, hd, h => by
    have ih := nx_ok fs c (i + 1) (fun g hg => hC g (List.mem_cons_of_mem _ hg)) (fun g hg => hd g (List.mem_cons_of_mem _ hg)) h.2
    exact ⟨hC f List.mem_cons_self y h.1, ih⟩
  | f :: fs, none :: c, i, hC, hd, h => by
    have ih := nx_ok fs c (i + 1) (fun g hg => hC g (List.mem_cons_of_mem _ hg)) (fun g hg => hd g (List.mem_cons_of_mem _ hg)) h.2
    simp only [nx, sel]
    cases hx : f.dfl.head? with
    | none => exact ⟨h.1, ih⟩
    | some x => exact ⟨hC f List.mem_cons_self x (hd f List.mem_cons_self x (List.mem_of_mem_head? hx)), ih⟩
theorem nx_nx {B : Int → Val → Bool} {C : Int → Val → Val} {np : Nat} : ∀ (fs : List Fld) (c : List (Option Val)) (i : Nat), (∀ f, f ∈ fs → ∀ y, B f.t y = true → C f.t (C f.t y) = C f.t y) → (∀ f, f ∈ fs → ∀ x, x ∈ f.dfl → B f.t x = true) → chOkW B np i fs c → nx C fs (nx C fs c) = nx C fs c
  | [], [], _, _, _, _ => rfl
  | [], _ :: _, _, _, _, h => h.elim
  | _ :: _, [], _, _, _, h => h.elim
  | f :: fs, some y :: c, i, hC, hd, h => by
    have ih := nx_nx fs c (i + 1) (fun g hg => hC g (List.mem_cons_of_mem _ hg)) (fun g hg => hd g (List.mem_cons_of_mem _ hg)) h.2
    simp only [nx, sel, Option.map_some]
    rw [ih, hC f List.mem_cons_self y h.1]
  | f :: fs, none :: c, i, hC, hd, h => by
    have ih := nx_nx fs c (i + 1) (fun g hg => hC g (List.mem_cons_of_mem _ hg)) (fun g hg => hd g (List.mem_cons_of_mem _ hg)) h.2
    simp only [nx, sel]
    cases hx : f.dfl.head? with
    | none => simp only [Option.map_none, sel, hx]; rw [ih]
    | some x => simp only [Option.map_some, sel]; rw [ih, hC f List.mem_cons_self x (hd f List.mem_cons_self x (List.mem_of_mem_head? hx))]

theorem bare8 {x : Val} (h : x.kind = 8) : bareV x = (decide (x.n = 0) && decide (x.s = ⟨#[]⟩)) := by simp [bareV, parted, h]
theorem bare9 {x : Val} (h : x.kind = 9) : bareV x = (decide (x.n = 0) && decide (x.s = ⟨#[]⟩) && decide (x.names.length = 0)) := by simp [bareV, parted, h]
theorem bare10 {x : Val} (h : x.kind = 10) : bareV x = (decide (x.n = 0) && decide (x.names.length = 0)) := by simp [bareV, parted, h]
theorem can_flat {C : Int → Val → Val} {r : Dsc} {v : Val} (hk : parted v.kind = false) (hb : bareV v = true) : canF C r v = v := by
  have hk2 := hk
  simp only [parted, Bool.or_eq_false_iff] at hk
  simp only [canF, hk.1.1, hk.1.2, hk.2, cond_false]
  simp only [bareV, hk2, hk.1.1, Bool.false_or, Bool.and_eq_true, decide_eq_true_eq] at hb
  exact val_ext rfl rfl rfl (List.eq_nil_of_length_eq_zero hb.2).symm (List.eq_nil_of_length_eq_zero hb.1.1.2).symm
theorem can_step {d : List Dsc} (hr : rightT d = true) {B : Int → Val → Bool} {C : Int → Val → Val} (hI : ∀ t v, inT d t → B t v = true → (C t v).kind = v.kind ∧ B t (C t v) = true ∧ C t (C t v) = C t v)
    (hD : ∀ r, r ∈ d → ∀ f, f ∈ r.fields → ∀ x, x ∈ f.dfl → B f.t x = true) {r : Dsc} (hrd : r ∈ d) {v : Val} (h : hasF B false r v = true) :
    (canF C r v).kind = v.kind ∧ hasF B false r (canF C r v) = true ∧ canF C r (canF C r v) = canF C r v := by
  have h0 := h
  simp only [hasF, Bool.false_and, Bool.not_false, Bool.true_and, Bool.and_eq_true, decide_eq_true_eq] at h
  obtain ⟨⟨hk, hb⟩, hkf⟩ := h
  have hrows := (tab_ok hr).1.rows r hrd
  cases hp : parted v.kind
  · rw [can_flat hp hb]
    exact ⟨rfl, h0, can_flat hp hb⟩
  · simp only [parted, Bool.or_eq_true, decide_eq_true_eq] at hp
    rcases hp with (h8 | h9) | h10
    · have hr8 : r.kind = 8 := hk ▸ h8
      have hdist := tab_dist hr r hrd
      simp only [kindF, hr8, Int.reduceEq, decide_true, decide_false, cond_true, cond_false, seqF, Bool.and_eq_true, decide_eq_true_eq] at hkf
      obtain ⟨c, q1, q2, q3⟩ := seqW_to _ _ _ _ hkf.1 hkf.2
      have hcl := chOkW_len q1
      have hp1 : ∀ (j : Nat) f o, r.fields[j]? = some f → c[j]? = some o → pick v f = sel f o := fun j f o hf ho => by
        have := pk_ch r.fields c hdist hcl j f o hf ho
        rw [q2, q3] at this; exact this
      obtain ⟨n1, l1⟩ := can_nx C v r.fields c hcl hp1
      have k1 := nx_ok (C := C) r.fields c 0 (fun f hf y hy => (hI f.t y (hrows.1 f hf) hy).2.1) (fun f hf x hx => hD r hrd f hf x hx) q1
      have k2 := nx_nx (C := C) r.fields c 0 (fun f hf y hy => (hI f.t y (hrows.1 f hf) hy).2.2) (fun f hf x hx => hD r hrd f hf x hx) q1
      have ea : canF C r v = .mk v.kind v.n v.s (canN v r.fields) (canL C v r.fields) v.ok := by
        simp only [canF, h8, decide_true, cond_true]
      have ak : (canF C r v).kind = v.kind := by rw [ea]; rfl
      have aS : (canF C r v).s = v.s := by rw [ea]; rfl
      have an : (canF C r v).n = v.n := by rw [ea]; rfl
      have aN : (canF C r v).names = chN r.fields (nx C r.fields c) := by rw [ea, ← n1]; rfl
      have aL : (canF C r v).l = (nx C r.fields c).filterMap id := by rw [ea, ← l1]; rfl
      generalize canF C r v = a at *
      have ha8 : a.kind = 8 := ak.trans h8
      refine ⟨ak, ?_, ?_⟩
      · simp only [hasF, Bool.false_and, Bool.not_false, Bool.true_and, Bool.and_eq_true, decide_eq_true_eq]
        refine ⟨⟨ak.trans hk, ?_⟩, ?_⟩
        · rw [bare8 ha8, aS, an]; rw [bare8 h8] at hb; exact hb
        · simp only [kindF, hr8, Int.reduceEq, decide_true, decide_false, cond_true, cond_false, seqF, Bool.and_eq_true, decide_eq_true_eq]
          rw [aN, aL]
          exact ⟨chN_len _ _ (nx_len C _ _ hcl), seqW_of _ _ _ hdist k1⟩
      · have hp2 : ∀ (j : Nat) f o, r.fields[j]? = some f → (nx C r.fields c)[j]? = some o → pick a f = sel f o := fun j f o hf ho => by
          have := pk_ch r.fields (nx C r.fields c) hdist (nx_len C _ _ hcl) j f o hf ho
          rw [← aN, ← aL] at this; exact this
        obtain ⟨n2, l2⟩ := can_nx C a r.fields _ (nx_len C _ _ hcl) hp2
        rw [k2, ← aN] at n2
        rw [k2, ← aL] at l2
        simp only [canF, ha8, decide_true, cond_true]
        exact val_ext ha8.symm rfl rfl n2 l2
    · have hr9 : r.kind = 9 := hk ▸ h9
      simp only [kindF, hr9, Int.reduceEq, decide_true, decide_false, cond_true, cond_false, Bool.and_eq_true, Bool.not_eq_true', List.any_eq_false, Bool.not_eq_false] at hkf
      have ea : canF C r v = .mk v.kind v.n v.s [] (v.l.map (C r.elem)) v.ok := by
        simp [canF, h9]
      have ak : (canF C r v).kind = v.kind := by rw [ea]; rfl
      have aS : (canF C r v).s = v.s := by rw [ea]; rfl
      have an : (canF C r v).n = v.n := by rw [ea]; rfl
      have aN : (canF C r v).names = [] := by rw [ea]; rfl
      have aL : (canF C r v).l = v.l.map (C r.elem) := by rw [ea]; rfl
      generalize canF C r v = a at *
      have ha9 : a.kind = 9 := ak.trans h9
      have hel : ∀ x, x ∈ v.l → B r.elem x = true := fun x hx => by have := hkf.2 x hx; simpa using this
      refine ⟨ak, ?_, ?_⟩
      · simp only [hasF, Bool.false_and, Bool.not_false, Bool.true_and, Bool.and_eq_true, decide_eq_true_eq]
        refine ⟨⟨ak.trans hk, ?_⟩, ?_⟩
        · rw [bare9 ha9, aS, an, aN]; rw [bare9 h9] at hb
          simp only [Bool.and_eq_true] at hb ⊢
          exact ⟨hb.1, rfl⟩
        · simp only [kindF, hr9, Int.reduceEq, decide_true, decide_false, cond_true, cond_false, Bool.and_eq_true, Bool.not_eq_true', List.any_eq_false, Bool.not_eq_false]
          rw [aL, List.length_map]
          refine ⟨hkf.1, fun x hx => ?_⟩
          obtain ⟨y, hy, rfl⟩ := List.mem_map.1 hx
          simp [(hI r.elem y hrows.2 (hel y hy)).2.1]
      · have : canF C r a = .mk a.kind a.n a.s [] (a.l.map (C r.elem)) a.ok := by simp [canF, ha9]
        rw [this]
        refine val_ext rfl rfl rfl aN.symm ?_
        show a.l.map (C r.elem) = a.l
        rw [aL, List.map_map]
        exact List.map_congr_left fun y hy => (hI r.elem y hrows.2 (hel y hy)).2.2
    · have hr10 : r.kind = 10 := hk ▸ h10
      simp only [kindF, hr10, Int.reduceEq, decide_true, decide_false, cond_true, cond_false, choF] at hkf
      have ea : canF C r v = .mk v.kind v.n v.s [] (canC C v r.fields) v.ok := by
        simp [canF, h10]
      have ak : (canF C r v).kind = v.kind := by rw [ea]; rfl
      have aS : (canF C r v).s = v.s := by rw [ea]; rfl
      have an : (canF C r v).n = v.n := by rw [ea]; rfl
      have aN : (canF C r v).names = [] := by rw [ea]; rfl
      have aL : (canF C r v).l = canC C v r.fields := by rw [ea]; rfl
      generalize canF C r v = a at *
      have ha10 : a.kind = 10 := ak.trans h10
      cases hf : r.fields.find? (fun f => decide (f.name = v.s)) with
      | none => rw [hf] at hkf; cases hkf
      | some f =>
        rw [hf] at hkf
        simp only [Bool.and_eq_true, decide_eq_true_eq] at hkf
        have hfm := List.mem_of_find?_eq_some hf
        have hfn : f.name = v.s := by have := List.find?_some hf; simpa using this
        obtain ⟨y, hy⟩ : ∃ y, v.l = [y] := List.length_eq_one_iff.1 hkf.1
        have hB : B f.t y = true := by have := hkf.2; rw [hy] at this; exact this
        have hrev : r.fields.reverse.find? (fun g => decide (g.name = v.s)) = some f := by
          cases hg : r.fields.reverse.find? (fun g => decide (g.name = v.s)) with
          | none =>
            rw [List.find?_eq_none] at hg
            exact absurd (by simpa using hfn) (hg f (List.mem_reverse.2 hfm))
          | some g =>
            have hgm := List.mem_reverse.1 (List.mem_of_find?_eq_some hg)
            have hgn : g.name = v.s := by have := List.find?_some hg; simpa using this
            rw [(tab_ok hr).1.once r hrd g f hgm hfm (hgn.trans hfn.symm)]
        have hL1 : canC C v r.fields = [C f.t y] := by simp only [canC, hrev, hy, List.head?_cons]
        obtain ⟨i1, i2, i3⟩ := hI f.t y (hrows.1 f hfm) hB
        rw [hL1] at aL
        refine ⟨ak, ?_, ?_⟩
        · simp only [hasF, Bool.false_and, Bool.not_false, Bool.true_and, Bool.and_eq_true, decide_eq_true_eq]
          refine ⟨⟨ak.trans hk, ?_⟩, ?_⟩
          · rw [bare10 ha10, an, aN]; rw [bare10 h10] at hb
            simp only [Bool.and_eq_true] at hb ⊢
            exact ⟨hb.1, rfl⟩
          · simp only [kindF, hr10, Int.reduceEq, decide_true, decide_false, cond_true, cond_false, choF]
            rw [aS, hf, aL]
            simpa [oneF] using i2
        · have : canF C r a = .mk a.kind a.n a.s [] (canC C a r.fields) a.ok := by simp [canF, ha10]
          rw [this]
          refine val_ext rfl rfl rfl aN.symm ?_
          show canC C a r.fields = a.l
          simp only [canC, aS, hrev, aL, List.head?_cons, i3]
theorem can_law {d : List Dsc} (hr : rightT d = true) : ∀ (k : Nat) (t : Int) (v : Val), inT d t → hasV d k t v = true → (canV d k t v).kind = v.kind ∧ hasV d k t (canV d k t v) = true ∧ canV d k t (canV d k t v) = canV d k t v
  | 0, t, v, ht, h => by
    have h0 := h
    have e1 : ∀ x, canV d 0 t x = canF (fun _ x => x) (rowAt d t) x := fun _ => rfl
    have hx : hasF (fun _ _ => true) true (rowAt d t) v = true := h
    simp only [hasF, Bool.true_and, Bool.and_eq_true, Bool.not_eq_true', decide_eq_true_eq] at hx
    have hp : parted v.kind = false := by rw [hx.1.1.2]; exact hx.1.1.1
    rw [e1, can_flat hp hx.1.2, e1, can_flat hp hx.1.2]
    exact ⟨rfl, h0, rfl⟩
  | k + 1, t, v, ht, h => can_step (B := hasV d k) (C := canV d k) hr (fun t v ht h => can_law hr k t v ht h) (fun r hrd f hf x hx => by
      obtain ⟨h1, h2⟩ := (tab_ok hr).1.dfl r hrd f hf x hx
      rw [hasV_simple h1 k 40]; exact h2) (rowAt_mem ht) h
theorem once_law {d : List Dsc} {v : Val} (h : checkT d v = 0) : (canonT d v).kind = v.kind ∧ checkT d (canonT d v) = 0 ∧ canonT d (canonT d v) = canonT d v := by
  obtain ⟨h1, h2⟩ := check_iff.1 h
  have ht : inT d 0 := ⟨Int.le_refl _, by have := (tab_ok h1).2; omega⟩
  obtain ⟨q1, q2, q3⟩ := can_law h1 40 0 v ht h2
  have e : canonT d v = canV d 40 0 v := by simp only [canonT, h, decide_true, cond_true]
  have hc : checkT d (canonT d v) = 0 := by rw [e]; exact check_iff.2 ⟨h1, q2⟩
  refine ⟨by rw [e]; exact q1, hc, ?_⟩
  have e2 : canonT d (canonT d v) = canV d 40 0 (canonT d v) := by rw [canonT, hc]; rfl
  rw [e2, e]; exact q3
theorem once_no {d : List Dsc} {v : Val} (h : checkT d v ≠ 0) : canonT d v = val0 := by simp only [canonT, h, decide_false, cond_false]
end Go.Abs.Fr

namespace Go.Abs.Fr
open Go Go.Abs Go.Proofs
set_option linter.unusedSimpArgs false
set_option maxRecDepth 100000

/-- spandrel/spandrellaw15.awake -/
def ac8 : ACode := (.seq (.region [⟨(some 0), (.move (.const (.bool false))), none⟩]) (.seq (.region [⟨(some 5), (.build [(.lit (.int .i64 0)), (.lit (.int .i64 0)), (.lit (.string (⟨#[]⟩ : ByteArray))), (.sl .full []), (.sl .full [])] [(0, (1, (.const (.int .i64 1)))), (1, (1, (.const (.int .i64 1))))]), none⟩, ⟨(some 6), (.buildSlice false 5 [(.lit (.int .i64 0)), (.lit (.int .i64 0)), (.lit (.string (⟨#[]⟩ : ByteArray))), (.sl .full []), (.sl .full [])] 1 [(0, (.tmp 5))]), none⟩, ⟨(some 7), (.build [(.lit (.string (⟨#[]⟩ : ByteArray))), (.lit (.int .i64 0)), (.lit (.bool false)), (.sl .full [])] [(0, (1, (.const (.string (⟨#[97]⟩ : ByteArray))))), (1, (1, (.const (.int .i64 1)))), (3, (1, (.tmp 6)))]), none⟩, ⟨(some 8), (.build [(.lit (.string (⟨#[]⟩ : ByteArray))), (.lit (.int .i64 0)), (.lit (.bool false)), (.sl .full [])] [(0, (1, (.const (.string (⟨#[98]⟩ : ByteArray))))), (1, (1, (.const (.int .i64 2))))]), none⟩, ⟨(some 9), (.buildSlice false 4 [(.lit (.string (⟨#[]⟩ : ByteArray))), (.lit (.int .i64 0)), (.lit (.bool false)), (.sl .full [])] 2 [(0, (.tmp 7)), (1, (.tmp 8))]), none⟩, ⟨(some 10), (.build [(.lit (.int .i64 0)), (.lit (.bool false)), (.sl .full []), (.lit (.int .i64 0)), (.lit (.int .i64 0)), (.lit (.string (⟨#[]⟩ : ByteArray))), (.sl .full []), (.sl .full []), (.sl .full []), (.sl .full []), (.sl .full []), (.lit (.int .i64 0))] [(0, (1, (.const (.int .i64 8)))), (8, (1, (.tmp 9)))]), none⟩, ⟨(some 11), (.build [(.lit (.int .i64 0)), (.lit (.bool false)), (.sl .full []), (.lit (.int .i64 0)), (.lit (.int .i64 0)), (.lit (.string (⟨#[]⟩ : ByteArray))), (.sl .full []), (.sl .full []), (.sl .full []), (.sl .full []), (.sl .full []), (.lit (.int .i64 0))] [(0, (1, (.const (.int .i64 1))))]), none⟩, ⟨(some 12), (.build [(.lit (.int .i64 0)), (.lit (.bool false)), (.sl .full []), (.lit (.int .i64 0)), (.lit (.int .i64 0)), (.lit (.string (⟨#[]⟩ : ByteArray))), (.sl .full []), (.sl .full []), (.sl .full []), (.sl .full []), (.sl .full []), (.lit (.int .i64 0))] [(0, (1, (.const (.int .i64 4))))]), none⟩, ⟨(some 13), (.buildSlice false 12 [(.lit (.int .i64 0)), (.lit (.bool false)), (.sl .full []), (.lit (.int .i64 0)), (.lit (.int .i64 0)), (.lit (.string (⟨#[]⟩ : ByteArray))), (.sl .full []), (.sl .full []), (.sl .full []), (.sl .full []), (.sl .full []), (.lit (.int .i64 0))] 3 [(0, (.tmp 10)), (1, (.tmp 11)), (2, (.tmp 12))]), none⟩, ⟨(some 1), (.move (.tmp 13)), none⟩]) (.seq (.region [⟨(some 14), (.buildSlice true 1 [(.lit (.string (⟨#[]⟩ : ByteArray)))] 1 [(0, (.const (.string (⟨#[98]⟩ : ByteArray))))]), none⟩, ⟨(some 15), (.build [(.lit (.int .i64 0)), (.lit (.int .i64 0)), (.lit (.string (⟨#[]⟩ : ByteArray))), (.sl .full []), (.sl .full [])] [(0, (1, (.const (.int .i64 4))))]), none⟩, ⟨(some 16), (.buildSlice false 5 [(.lit (.int .i64 0)), (.lit (.int .i64 0)), (.lit (.string (⟨#[]⟩ : ByteArray))), (.sl .full []), (.sl .full [])] 1 [(0, (.tmp 15))]), none⟩, ⟨(some 17), (.build [(.lit (.int .i64 0)), (.lit (.int .i64 0)), (.lit (.string (⟨#[]⟩ : ByteArray))), (.sl .full []), (.sl .full [])] [(0, (1, (.const (.int .i64 8)))), (3, (1, (.tmp 14))), (4, (1, (.tmp 16)))]), none⟩, ⟨(some 2), (.alloc [(.lit (.int .i64 0)), (.lit (.int .i64 0)), (.lit (.string (⟨#[]⟩ : ByteArray))), (.sl .full []), (.sl .full [])]), none⟩, ⟨none, (.store 5 (.tmp 2) (.tmp 17)), none⟩]) (.seq (.region [⟨(some 19), (.move (.tmp 1)), none⟩, ⟨(some 20), (.load (some 5) (.tmp 2)), none⟩, ⟨(some 21), (.call (.func 11) [((.tmp 19), false), ((.tmp 20), false)]), none⟩, ⟨(some 18), (.move (.tmp 21)), none⟩, ⟨(some 22), (.extract (.tmp 18) 0), none⟩, ⟨(some 23), (.extract (.tmp 18) 1), none⟩, ⟨(some 3), (.alloc [(.lit (.int .i64 0)), (.lit (.int .i64 0)), (.lit (.string (⟨#[]⟩ : ByteArray))), (.sl .full []), (.sl .full [])]), none⟩, ⟨none, (.store 5 (.tmp 3) (.tmp 22)), none⟩, ⟨(some 4), (.move (.tmp 23)), none⟩]) (.seq (.region [⟨(some 24), (.fieldAddr 3 (.tmp 2)), none⟩, ⟨(some 25), (.load none (.tmp 24)), none⟩, ⟨(some 26), (.indexAddr 1 (.tmp 25) (.const (.int .i64 0))), none⟩, ⟨none, (.store 1 (.tmp 26) (.const (.string (⟨#[97]⟩ : ByteArray)))), none⟩]) (.seq (.region [⟨(some 27), (.move (.tmp 4)), none⟩, ⟨(some 28), (.bin .eql (.tmp 27) (.const (.int .i64 0))), none⟩, ⟨(some 29), (.move (.tmp 28)), none⟩, ⟨(some 30), (.fieldAddr 4 (.tmp 3)), (some (29, true))⟩, ⟨(some 31), (.load none (.tmp 30)), (some (29, true))⟩, ⟨(some 32), (.len false (.tmp 31)), (some (29, true))⟩, ⟨(some 33), (.bin .eql (.tmp 32) (.const (.int .i64 2))), (some (29, true))⟩, ⟨(some 34), (.pick (.tmp 29) (.tmp 33) (.const (.bool false))), none⟩, ⟨(some 35), (.move (.tmp 34)), none⟩, ⟨(some 36), (.fieldAddr 3 (.tmp 3)), (some (35, true))⟩, ⟨(some 37), (.load none (.tmp 36)), (some (35, true))⟩, ⟨(some 38), (.indexAddr 1 (.tmp 37) (.const (.int .i64 0))), (some (35, true))⟩, ⟨(some 39), (.load none (.tmp 38)), (some (35, true))⟩, ⟨(some 40), (.bin .eql (.tmp 39) (.const (.string (⟨#[97]⟩ : ByteArray)))), (some (35, true))⟩, ⟨(some 41), (.pick (.tmp 35) (.tmp 40) (.const (.bool false))), none⟩, ⟨(some 42), (.move (.tmp 41)), none⟩, ⟨(some 43), (.fieldAddr 4 (.tmp 3)), (some (42, true))⟩, ⟨(some 44), (.load none (.tmp 43)), (some (42, true))⟩, ⟨(some 45), (.indexAddr 5 (.tmp 44) (.const (.int .i64 0))), (some (42, true))⟩, ⟨(some 46), (.fieldAddr 1 (.tmp 45)), (some (42, true))⟩, ⟨(some 47), (.load none (.tmp 46)), (some (42, true))⟩, ⟨(some 48), (.bin .eql (.tmp 47) (.const (.int .i64 1))), (some (42, true))⟩, ⟨(some 49), (.pick (.tmp 42) (.tmp 48) (.const (.bool false))), none⟩, ⟨(some 50), (.move (.tmp 49)), none⟩, ⟨(some 51), (.move (.tmp 1)), (some (50, true))⟩, ⟨(some 52), (.load (some 5) (.tmp 2)), (some (50, true))⟩, ⟨(some 53), (.call (.func 15) [((.tmp 51), false), ((.tmp 52), false)]), (some (50, true))⟩, ⟨(some 54), (.bin .eql (.tmp 53) (.const (.int .i64 4))), (some (50, true))⟩, ⟨(some 55), (.pick (.tmp 50) (.tmp 54) (.const (.bool false))), none⟩, ⟨(some 56), (.move (.tmp 55)), none⟩, ⟨(some 57), (.move (.tmp 1)), (some (56, true))⟩, ⟨(some 58), (.call (.func 17) [((.tmp 57), false)]), (some (56, true))⟩, ⟨(some 59), (.pick (.tmp 56) (.tmp 58) (.const (.bool false))), none⟩, ⟨(some 60), (.move (.tmp 59)), none⟩, ⟨(some 61), (.load (some 5) (.tmp 3)), (some (60, true))⟩, ⟨(some 62), (.load (some 5) (.tmp 3)), (some (60, true))⟩, ⟨(some 63), (.call (.func 14) [((.tmp 61), false), ((.tmp 62), false)]), (some (60, true))⟩, ⟨(some 64), (.pick (.tmp 60) (.tmp 63) (.const (.bool false))), none⟩, ⟨(some 0), (.move (.tmp 64)), none⟩]) .ret))))))
theorem c8 : cfn E0.P [(2,0)] Tryz.f8 = some (ac8, [(.tmp 0)], 65) := by kernel_rfl
/-- spandrel/spandrellaw15.few -/
def ac10 : ACode := (.seq (.region [⟨(some 1), (.box (.tmp 0)), none⟩, ⟨(some 2), (.move (.const (.bool false))), none⟩]) (.seq (.region [⟨(some 3), (.load (some 5) (.tmp 1)), none⟩, ⟨(some 4), (.buildSlice false 5 [(.lit (.int .i64 0)), (.lit (.int .i64 0)), (.lit (.string (⟨#[]⟩ : ByteArray))), (.sl .full []), (.sl .full [])] 1 [(0, (.tmp 3))]), none⟩, ⟨(some 5), (.call (.func 16) [((.tmp 4), false), ((.const (.int .i64 300)), false)]), none⟩, ⟨(some 6), (.move (.tmp 5)), none⟩, ⟨(some 7), (.fieldAddr 2 (.tmp 1)), (some (6, true))⟩, ⟨(some 8), (.load none (.tmp 7)), (some (6, true))⟩, ⟨(some 9), (.len true (.tmp 8)), (some (6, true))⟩, ⟨(some 10), (.bin .leq (.tmp 9) (.const (.int .i64 10000))), (some (6, true))⟩, ⟨(some 11), (.pick (.tmp 6) (.tmp 10) (.const (.bool false))), none⟩, ⟨(some 2), (.move (.tmp 11)), none⟩]) .ret))
theorem c10 : cfn E0.P [] Tryz.f10 = some (ac10, [(.tmp 2)], 12) := by kernel_rfl

theorem low_strs (l : List ByteArray) : lows (l.map str) = l.map str := by rw [lows_map, List.map_map]; rfl
mutual
theorem low_val : ∀ (v : Val), (valv v).low = valv v
  | .mk k n s ns l _ => by
    have := low_vals l
    simp only [valv, AV.low, lows, this]
    rw [show lows (ns.map fun s => AV.lit (.string s)) = ns.map fun s => AV.lit (.string s) from low_strs ns]
theorem low_vals : ∀ (l : List Val), lows (valsv l) = valsv l
  | [] => by simp only [valsv, lows]
  | s :: l => by simp only [valsv, lows, low_val s, low_vals l]
end
def fewT1 (v : Val) : Bool := decide (0 ≤ fewVs [v] 300) && decide (v.s.size ≤ 10000)
theorem few1_ev (v : Val) (hv : mxV v ≤ 2 ^ 47) (h : List AObj) : EvR E0 10 [valv v] h (boolv (fewT1 v)) := by
  refine ev_of (fn := Tryz.f10) (hs := []) Tryz.func10 c10 (by simp) fun hcl => ?_
  have hf := fun h => fewValues_ev2 [v] (by simp only [mxVs, List.length_nil]; omega) 300 (by omega) (by omega) h
  have hf2 : ∀ h, EvR E0 16 [.sl .full [.agg [i64 v.kind, i64 v.n, str v.s, strl v.names, vall v.l]], i64 300] h (boolv (decide (0 ≤ fewVs [v] 300))) := fun h => (hf h).high (by rw [← valv_eq]; simp only [lows, AV.low, low_val]; rfl)
  have d0 : decide ((v.s.size : Int) ≤ 10000) = decide (v.s.size ≤ 10000) := by rw [decide_eq_decide]; omega
  unfold fewT1
  simp only [ac10, valv_eq, aw20, List.take_succ_cons, List.take_zero, List.drop_zero, List.drop_succ_cons, List.length_map, ↓awD, awP, Nat.reduceLeDiff, Nat.reduceEqDiff, Nat.reduceAdd, Nat.zero_add, Int.cast_ofNat_Int, Int.reduceLT, Int.reduceLE, Int.reduceEq]
  (refine Need.mk (by simp only [litParts, List.mem_cons, List.not_mem_nil, or_false, forall_eq_or_imp, forall_eq]; refine ⟨by decide, by decide, by decide, ?_⟩; repeat' (first | exact ⟨rfl, rfl, rfl⟩ | rfl | constructor)) ?_; simp only [d0, aw20, List.take_succ_cons, List.take_zero, List.drop_zero, List.drop_succ_cons, List.length_map, ↓awD, awP, Nat.reduceLeDiff, Nat.reduceEqDiff, Nat.reduceAdd, Nat.zero_add, Int.cast_ofNat_Int, Int.reduceLT, Int.reduceLE, Int.reduceEq])
  repeat' (first | ((first | refine EvF.ret (hf2 _) ?_ | refine EvRF.ret (hf2 _) ?_); simp only [d0, aw21, aw20, List.take_succ_cons, List.take_zero, List.drop_zero, List.drop_succ_cons, List.length_map, ↓awD, awP, Nat.reduceLeDiff, Nat.reduceEqDiff, Nat.reduceAdd, Nat.zero_add, Int.cast_ofNat_Int, Int.reduceLT, Int.reduceLE, Int.reduceEq]) | (refine BrF.mk (fun hb => ?_) (fun hb => ?_) <;> (try rw [hb]) <;> simp only [d0, aw21, aw20, List.take_succ_cons, List.take_zero, List.drop_zero, List.drop_succ_cons, List.length_map, ↓awD, awP, Nat.reduceLeDiff, Nat.reduceEqDiff, Nat.reduceAdd, Nat.zero_add, Int.cast_ofNat_Int, Int.reduceLT, Int.reduceLE, Int.reduceEq]))
  all_goals (refine Fin.end hcl rfl (by first | rfl | exact (List.append_nil _).symm | (simp only [List.append_assoc]; rfl)) ⟨?_, rfl⟩; clear hf hf2; simp [*])

def dA : List Dsc := [⟨8, false, [], 0, 0, ⟨#[]⟩, [], [], [⟨⟨#[97]⟩, 1, false, [.mk 1 1 ⟨#[]⟩ [] [] (by unfold InR; decide)], by unfold InR; decide⟩, ⟨⟨#[98]⟩, 2, false, [], by unfold InR; decide⟩], [], [], 0, by unfold InR; decide, by unfold InR; decide, by unfold InR; decide, by unfold InR; decide, by intro x h; cases h⟩,
  ⟨1, false, [], 0, 0, ⟨#[]⟩, [], [], [], [], [], 0, by unfold InR; decide, by unfold InR; decide, by unfold InR; decide, by unfold InR; decide, by intro x h; cases h⟩,
  ⟨4, false, [], 0, 0, ⟨#[]⟩, [], [], [], [], [], 0, by unfold InR; decide, by unfold InR; decide, by unfold InR; decide, by unfold InR; decide, by intro x h; cases h⟩]
def vA (s : ByteArray) : Val := .mk 8 0 ⟨#[]⟩ [s] [.mk 4 0 ⟨#[]⟩ [] [] (by unfold InR; decide)] (by unfold InR; decide)
def cA : Val := .mk 8 0 ⟨#[]⟩ [⟨#[97]⟩, ⟨#[98]⟩] [.mk 1 1 ⟨#[]⟩ [] [] (by unfold InR; decide), .mk 4 0 ⟨#[]⟩ [] [] (by unfold InR; decide)] (by unfold InR; decide)
theorem rightA : rightT dA = true := by decide
theorem checkA : checkT dA (vA ⟨#[98]⟩) = 0 := by decide
theorem checkB : checkT dA (vA ⟨#[97]⟩) = 4 := by decide
theorem canonA : canonT dA (vA ⟨#[98]⟩) = cA := by
  unfold canonT
  rw [checkA]
  rfl
theorem wideA : ∀ r, r ∈ dA → BD (2 ^ 30) r := by
  intro r hr
  simp only [dA, List.mem_cons, List.not_mem_nil, or_false] at hr
  rcases hr with rfl | rfl | rfl
  · refine ⟨by decide, by decide, by decide, by decide, by decide, by decide, by decide, fun f hf => ?_, fun f hf => by cases hf⟩
    simp only [List.mem_cons, List.not_mem_nil, or_false] at hf
    rcases hf with rfl | rfl <;> exact ⟨by decide, by decide⟩
  · exact ⟨by decide, by decide, by decide, by decide, by decide, by decide, by decide, (fun f hf => by cases hf), (fun f hf => by cases hf)⟩
  · exact ⟨by decide, by decide, by decide, by decide, by decide, by decide, by decide, (fun f hf => by cases hf), (fun f hf => by cases hf)⟩
theorem awake_ev (h : List AObj) : EvR E0 8 [] h (boolv true) := by
  have c1 := fun h => canon_ev dA wideA (by decide) (vA ⟨#[98]⟩) (by decide) (by decide) h
  have c2 := fun h => check_ev dA wideA (by decide) (vA ⟨#[97]⟩) (by decide) h
  have c3 := fun h => mright_ev dA wideA (by decide) h
  have c4 := fun h => same_ev 10 cA cA (by decide) (by decide) (by decide) h
  rw [canonA, checkA] at c1
  rw [checkB] at c2
  rw [rightA] at c3
  rw [show eqV cA cA = true from eqV_iff.2 rfl] at c4
  refine Ev.drop rfl ?_
  refine ev_of (fn := Tryz.f8) (hs := [(2,0)]) Tryz.func8 c8 (by simp) fun hcl => ?_
  simp only [ac8, aw20, List.take_succ_cons, List.take_zero, List.drop_zero, List.drop_succ_cons, List.length_map, ↓awD, awP, Nat.reduceLeDiff, Nat.reduceEqDiff, Nat.reduceAdd, Nat.zero_add, Int.cast_ofNat_Int, Int.reduceLT, Int.reduceLE, Int.reduceEq]
  repeat' (first | (refine Need.mk (by simp only [litParts, List.mem_cons, List.not_mem_nil, or_false, forall_eq_or_imp, forall_eq]; refine ⟨by decide, by decide, by decide, ?_⟩; repeat' (first | exact ⟨rfl, rfl, rfl⟩ | rfl | constructor)) ?_; simp only [aw21, aw20, List.take_succ_cons, List.take_zero, List.drop_zero, List.drop_succ_cons, List.length_map, ↓awD, awP, Nat.reduceLeDiff, Nat.reduceEqDiff, Nat.reduceAdd, Nat.zero_add, Int.cast_ofNat_Int, Int.reduceLT, Int.reduceLE, Int.reduceEq]))
  have hfc : flatC [AV.lit (.string ⟨#[98]⟩)] = [AV.lit (.string ⟨#[98]⟩)] := rfl
  have l1 : ∀ (x : AObj), (h ++ [x]).length = h.length + 1 := fun x => by simp
  have l2 : ∀ (x y : AObj), (h ++ [x] ++ [y]).length = h.length + 2 := fun x y => by simp
  have g0 : ∀ (x y z : AObj), (h ++ [x] ++ [y] ++ [z])[h.length]? = some x := fun x y z => by simp
  have g1 : ∀ (x y z : AObj), (h ++ [x] ++ [y] ++ [z])[h.length + 1]? = some y := fun x y z => by simp
  have g2 : ∀ (x y z : AObj), (h ++ [x] ++ [y] ++ [z])[h.length + 2]? = some z := fun x y z => by simp
  have s0 : ∀ (x y z w : AObj), (h ++ [x] ++ [y] ++ [z]).set h.length w = h ++ [w] ++ [y] ++ [z] := fun x y z w => by simp
  have s2 : ∀ (x y z w : AObj), (h ++ [x] ++ [y] ++ [z]).set (h.length + 2) w = h ++ [x] ++ [y] ++ [w] := fun x y z w => by
    rw [List.set_append_right _ _ (by simp), l2]; simp
  simp only [List.nil_append, List.append_nil, hfc, l1, l2, List.map_cons, List.map_nil, AV.strip]
  have hid0 : ∀ (s : ByteArray) (x : AObj), (h ++ [AObj.cells [.lit (.string s)]] ++ [x])[h.length]? = some (.cells [.lit (.string s)]) := fun s x => geta h _ x
  refine EvF.ret (EvR.lend1 (id := h.length) (s := ⟨#[98]⟩) (R := .tup [valv cA, i64 0]) (args' := [_, .agg [_, _, _, .sl .unk ([(⟨#[98]⟩ : ByteArray)].map fun s => .lit (.string s)), _]]) Tryz.func11 (by rfl) rfl ?hev (hid0 _ _)
    (.cons (.same ?a1 ?a2) (.cons (.agg (.cons (.same ?b1 ?b2) (.cons (.same ?c1 ?c2) (.cons (.same ?d1 ?d2) (.cons (.txt (l := [⟨#[98]⟩]) (hid0 _ _)) (.cons (.same ?e1 ?e2) .nil)))))) .nil)) ?big) ?_
  case hev => exact (c1 []).high rfl
  case big => rfl
  case a1 => rfl
  case a2 => exact ⟨(fun _ _ h => by cases h), (fun _ h => by cases h), (fun _ _ h => by cases h)⟩
  case b1 => rfl
  case b2 => exact NoOwn.lit _
  case c1 => rfl
  case c2 => exact NoOwn.lit _
  case d1 => rfl
  case d2 => exact NoOwn.lit _
  case e1 => rfl
  case e2 => exact ⟨(fun _ _ h => by cases h), (fun _ h => by cases h), (fun _ _ h => by cases h)⟩
  simp only [cA, valv, valsv, l1, l2, g0, g1, g2, s0, s2, aw20, List.take_succ_cons, List.take_zero, List.drop_zero, List.drop_succ_cons, List.length_map, ↓awD, awP, Nat.reduceLeDiff, Nat.reduceEqDiff, Nat.reduceAdd, Nat.zero_add, Int.cast_ofNat_Int, Int.reduceLT, Int.reduceLE, Int.reduceEq]
  refine Need.mk (by decide) ?_
  have hset : ∀ (x y z : AObj), (h ++ [x] ++ [y] ++ [z]).set h.length (AObj.cells [.lit (.string ⟨#[97]⟩)]) = h ++ [AObj.cells [.lit (.string ⟨#[97]⟩)]] ++ [y] ++ [z] := fun x y z => by simp
  simp only [l1, l2, g0, g1, g2, s0, s2, Int.toNat_zero, Nat.zero_mul, aw20, List.take_succ_cons, List.take_zero, List.drop_zero, List.drop_succ_cons, List.length_map, ↓awD, awP, Nat.reduceLeDiff, Nat.reduceEqDiff, Nat.reduceAdd, Nat.zero_add, Int.cast_ofNat_Int, Int.reduceLT, Int.reduceLE, Int.reduceEq]
  refine Elem.recs rfl ⟨rfl, rfl⟩ ?_
  simp only [l1, l2, g0, g1, g2, s0, s2, aw20, List.take_succ_cons, List.take_zero, List.drop_zero, List.drop_succ_cons, List.length_map, ↓awD, awP, Nat.reduceLeDiff, Nat.reduceEqDiff, Nat.reduceAdd, Nat.zero_add, Int.cast_ofNat_Int, Int.reduceLT, Int.reduceLE, Int.reduceEq]
  refine Elem.recs rfl ⟨rfl, rfl⟩ ?_
  simp only [l1, l2, g0, g1, g2, s0, s2, aw20, List.take_succ_cons, List.take_zero, List.drop_zero, List.drop_succ_cons, List.length_map, ↓awD, awP, Nat.reduceLeDiff, Nat.reduceEqDiff, Nat.reduceAdd, Nat.zero_add, Int.cast_ofNat_Int, Int.reduceLT, Int.reduceLE, Int.reduceEq]
  refine EvF.ret (EvR.lend1 (id := h.length) (s := ⟨#[97]⟩) (R := i64 4) (args' := [_, .agg [_, _, _, .sl .unk ([(⟨#[97]⟩ : ByteArray)].map fun s => .lit (.string s)), _]]) Tryz.func15 (by rfl) rfl ?hev (g0 _ _ _)
    (.cons (.same ?a1 ?a2) (.cons (.agg (.cons (.same ?b1 ?b2) (.cons (.same ?c1 ?c2) (.cons (.same ?d1 ?d2) (.cons (.txt (l := [⟨#[97]⟩]) (g0 _ _ _)) (.cons (.same ?e1 ?e2) .nil)))))) .nil)) ?big) ?_
  case hev => exact (c2 []).high rfl
  case big => rfl
  case a1 => rfl
  case a2 => exact ⟨(fun _ _ h => by cases h), (fun _ h => by cases h), (fun _ _ h => by cases h)⟩
  case b1 => rfl
  case b2 => exact NoOwn.lit _
  case c1 => rfl
  case c2 => exact NoOwn.lit _
  case d1 => rfl
  case d2 => exact NoOwn.lit _
  case e1 => rfl
  case e2 => exact ⟨(fun _ _ h => by cases h), (fun _ h => by cases h), (fun _ _ h => by cases h)⟩
  simp only [l1, l2, g0, g1, g2, s0, s2, aw20, List.take_succ_cons, List.take_zero, List.drop_zero, List.drop_succ_cons, List.length_map, ↓awD, awP, Nat.reduceLeDiff, Nat.reduceEqDiff, Nat.reduceAdd, Nat.zero_add, Int.cast_ofNat_Int, Int.reduceLT, Int.reduceLE, Int.reduceEq]
  refine EvF.ret ((c3 _).high rfl) ?_
  simp only [l1, l2, g0, g1, g2, s0, s2, aw20, List.take_succ_cons, List.take_zero, List.drop_zero, List.drop_succ_cons, List.length_map, ↓awD, awP, Nat.reduceLeDiff, Nat.reduceEqDiff, Nat.reduceAdd, Nat.zero_add, Int.cast_ofNat_Int, Int.reduceLT, Int.reduceLE, Int.reduceEq]
  simp only [cA, valv, valsv] at c4
  refine EvF.ret (c4 _) ?_
  simp only [l1, l2, g0, g1, g2, s0, s2, aw20, List.take_succ_cons, List.take_zero, List.drop_zero, List.drop_succ_cons, List.length_map, ↓awD, awP, Nat.reduceLeDiff, Nat.reduceEqDiff, Nat.reduceAdd, Nat.zero_add, Int.cast_ofNat_Int, Int.reduceLT, Int.reduceLE, Int.reduceEq]
  exact Fin.all (by simp) ⟨rfl, [_, _, _], by simp; exact ⟨rfl, rfl, rfl⟩⟩
end Go.Abs.Fr

namespace Go.Abs.Fr
open Go Go.Abs Go.Proofs
set_option linter.unusedSimpArgs false
set_option maxRecDepth 100000

theorem hpl (h : List AObj) :
    ((∀ a : AObj, (h ++ [a]).length = h.length + 1) ∧ (∀ a b : AObj, (h ++ [a] ++ [b]).length = h.length + 2) ∧ (∀ a b c : AObj, (h ++ [a] ++ [b] ++ [c]).length = h.length + 3) ∧ (∀ a b c d : AObj, (h ++ [a] ++ [b] ++ [c] ++ [d]).length = h.length + 4)) ∧
    ((∀ a : AObj, (h ++ [a])[h.length]? = some a) ∧ (∀ a b : AObj, (h ++ [a] ++ [b])[h.length]? = some a) ∧ (∀ a b c : AObj, (h ++ [a] ++ [b] ++ [c])[h.length]? = some a) ∧ (∀ a b c d : AObj, (h ++ [a] ++ [b] ++ [c] ++ [d])[h.length]? = some a)) ∧
    ((∀ a b : AObj, (h ++ [a] ++ [b])[h.length + 1]? = some b) ∧ (∀ a b c : AObj, (h ++ [a] ++ [b] ++ [c])[h.length + 1]? = some b) ∧ (∀ a b c d : AObj, (h ++ [a] ++ [b] ++ [c] ++ [d])[h.length + 1]? = some b)) ∧
    ((∀ a b c : AObj, (h ++ [a] ++ [b] ++ [c])[h.length + 2]? = some c) ∧ (∀ a b c d : AObj, (h ++ [a] ++ [b] ++ [c] ++ [d])[h.length + 2]? = some c) ∧ (∀ a b c d : AObj, (h ++ [a] ++ [b] ++ [c] ++ [d])[h.length + 3]? = some d)) ∧
    ((∀ a x : AObj, (h ++ [a]).set h.length x = h ++ [x]) ∧ (∀ a b x : AObj, (h ++ [a] ++ [b]).set (h.length + 1) x = h ++ [a] ++ [x]) ∧ (∀ a b c x : AObj, (h ++ [a] ++ [b] ++ [c]).set (h.length + 2) x = h ++ [a] ++ [b] ++ [x]) ∧ (∀ a b c d x : AObj, (h ++ [a] ++ [b] ++ [c] ++ [d]).set (h.length + 3) x = h ++ [a] ++ [b] ++ [c] ++ [x])) := by
  have s1 : ∀ (l : List AObj) (a x : AObj) (n : Nat), l.length = n → (l ++ [a]).set n x = l ++ [x] := fun l a x n hn => by subst hn; simp
  refine ⟨⟨?_, ?_, ?_, ?_⟩, ⟨?_, ?_, ?_, ?_⟩, ⟨?_, ?_, ?_⟩, ⟨?_, ?_, ?_⟩, ⟨?_, ?_, ?_, ?_⟩⟩ <;> intros <;> first | (simp; done) | (apply s1; simp; done) | skip
theorem low_fld (f : Fld) : (fldv f).low = fldv f := by
  simp only [fldv, AV.low, lows]
  rw [show lows (f.dfl.map valv) = f.dfl.map valv by rw [← valsv_map]; exact low_vals _]
theorem low_map {α : Type} (f : α → AV) (hf : ∀ a, (f a).low = f a) (l : List α) : lows (l.map f) = l.map f := by
  rw [lows_map, List.map_map]; exact List.map_congr_left fun a _ => hf a
theorem low_dsc (d : Dsc) : (dscv d).low = dscv d := by
  simp only [dscv, AV.low, lows]
  rw [low_map rgv (fun _ => rfl), low_map fldv low_fld, low_map fldv low_fld, show lows (d.names.map fun s => AV.lit (.string s)) = d.names.map fun s => AV.lit (.string s) from low_strs _, show lows (d.more.map fun s => AV.lit (.string s)) = d.more.map fun s => AV.lit (.string s) from low_strs _,
    show lows (d.order.map fun s => AV.lit (.int .i64 s)) = d.order.map fun s => AV.lit (.int .i64 s) from low_map _ (fun _ => rfl) _]
theorem low_dscl (l : List Dsc) : lows (l.map dscv) = l.map dscv := low_map _ low_dsc l
theorem low_vall (l : List Val) : lows (l.map valv) = l.map valv := low_map _ low_val l
theorem lows_append (a b : List AV) : lows (a ++ b) = lows a ++ lows b := by rw [lows_map, lows_map, lows_map, List.map_append]
end Go.Abs.Fr

namespace Go.Abs.Fr
open Go Go.Abs Go.Proofs
set_option linter.unusedSimpArgs false
set_option maxRecDepth 100000

/-- spandrel/spandrellaw15.MemberKinds -/
def ac5 : ACode := (.seq (.region [⟨(some 4), (.box (.tmp 1)), none⟩, ⟨(some 6), (.move (.const (.bool false))), none⟩]) (.seq (.region [⟨(some 11), (.call (.func 8) []), none⟩, ⟨(some 7), (.move (.tmp 11)), none⟩]) (.seq (.seq (.region [⟨(some 12), (.move (.tmp 0)), none⟩, ⟨(some 13), (.call (.func 9) [((.tmp 12), false)]), none⟩, ⟨(some 14), (.un .not (.tmp 13)), none⟩, ⟨(some 15), (.move (.tmp 14)), none⟩, ⟨(some 16), (.load (some 5) (.tmp 4)), (some (15, false))⟩, ⟨(some 17), (.call (.func 10) [((.tmp 16), false)]), (some (15, false))⟩, ⟨(some 18), (.un .not (.tmp 17)), (some (15, false))⟩, ⟨(some 19), (.pick (.tmp 15) (.const (.bool true)) (.tmp 18)), none⟩, ⟨(some 20), (.move (.tmp 19)), none⟩, ⟨(some 21), (.move (.tmp 0)), (some (20, false))⟩, ⟨(some 22), (.load (some 5) (.tmp 4)), (some (20, false))⟩, ⟨(some 23), (.call (.func 15) [((.tmp 21), false), ((.tmp 22), false)]), (some (20, false))⟩, ⟨(some 24), (.bin .neq (.tmp 23) (.const (.int .i64 0))), (some (20, false))⟩, ⟨(some 25), (.pick (.tmp 20) (.const (.bool true)) (.tmp 24)), none⟩]) (.cond (.tmp 25) (.seq (.region [⟨(some 26), (.move (.tmp 7)), none⟩, ⟨(some 6), (.move (.tmp 26)), none⟩]) .ret) .skip)) (.seq (.region [⟨(some 27), (.load (some 5) (.tmp 4)), none⟩, ⟨(some 8), (.alloc [(.lit (.int .i64 0)), (.lit (.int .i64 0)), (.lit (.string (⟨#[]⟩ : ByteArray))), (.sl .full []), (.sl .full [])]), none⟩, ⟨none, (.store 5 (.tmp 8) (.tmp 27)), none⟩]) (.seq (.region [⟨(some 28), (.move (.tmp 2)), none⟩, ⟨(some 29), (.fieldAddr 0 (.tmp 8)), none⟩, ⟨none, (.store 1 (.tmp 29) (.tmp 28)), none⟩]) (.seq (.region [⟨(some 30), (.load (some 5) (.tmp 4)), none⟩, ⟨(some 9), (.alloc [(.lit (.int .i64 0)), (.lit (.int .i64 0)), (.lit (.string (⟨#[]⟩ : ByteArray))), (.sl .full []), (.sl .full [])]), none⟩, ⟨none, (.store 5 (.tmp 9) (.tmp 30)), none⟩]) (.seq (.region [⟨(some 31), (.buildSlice false 1 [(.lit (.string (⟨#[]⟩ : ByteArray)))] 0 []), none⟩, ⟨(some 32), (.fieldAddr 3 (.tmp 4)), none⟩, ⟨(some 33), (.load none (.tmp 32)), none⟩, ⟨(some 34), (.append 1 16 [(.lit (.string (⟨#[]⟩ : ByteArray)))] (.tmp 31) (.tmp 33)), none⟩, ⟨(some 35), (.buildSlice false 1 [(.lit (.string (⟨#[]⟩ : ByteArray)))] 1 [(0, (.const (.string (⟨#[110, 111, 45, 115, 117, 99, 104, 45, 110, 97, 109, 101]⟩ : ByteArray))))]), none⟩, ⟨(some 36), (.append 1 16 [(.lit (.string (⟨#[]⟩ : ByteArray)))] (.tmp 34) (.tmp 35)), none⟩, ⟨(some 37), (.fieldAddr 3 (.tmp 9)), none⟩, ⟨none, (.store 1 (.tmp 37) (.tmp 36)), none⟩]) (.seq (.region [⟨(some 38), (.load (some 5) (.tmp 4)), none⟩, ⟨(some 10), (.alloc [(.lit (.int .i64 0)), (.lit (.int .i64 0)), (.lit (.string (⟨#[]⟩ : ByteArray))), (.sl .full []), (.sl .full [])]), none⟩, ⟨none, (.store 5 (.tmp 10) (.tmp 38)), none⟩]) (.seq (.region [⟨(some 39), (.buildSlice false 5 [(.lit (.int .i64 0)), (.lit (.int .i64 0)), (.lit (.string (⟨#[]⟩ : ByteArray))), (.sl .full []), (.sl .full [])] 0 []), none⟩, ⟨(some 40), (.fieldAddr 4 (.tmp 4)), none⟩, ⟨(some 41), (.load none (.tmp 40)), none⟩, ⟨(some 42), (.append 5 80 [(.lit (.int .i64 0)), (.lit (.int .i64 0)), (.lit (.string (⟨#[]⟩ : ByteArray))), (.sl .full []), (.sl .full [])] (.tmp 39) (.tmp 41)), none⟩, ⟨(some 43), (.build [(.lit (.int .i64 0)), (.lit (.int .i64 0)), (.lit (.string (⟨#[]⟩ : ByteArray))), (.sl .full []), (.sl .full [])] []), none⟩, ⟨(some 44), (.buildSlice false 5 [(.lit (.int .i64 0)), (.lit (.int .i64 0)), (.lit (.string (⟨#[]⟩ : ByteArray))), (.sl .full []), (.sl .full [])] 1 [(0, (.tmp 43))]), none⟩, ⟨(some 45), (.append 5 80 [(.lit (.int .i64 0)), (.lit (.int .i64 0)), (.lit (.string (⟨#[]⟩ : ByteArray))), (.sl .full []), (.sl .full [])] (.tmp 42) (.tmp 44)), none⟩, ⟨(some 46), (.fieldAddr 4 (.tmp 10)), none⟩, ⟨none, (.store 1 (.tmp 46) (.tmp 45)), none⟩]) (.seq (.region [⟨(some 47), (.move (.tmp 7)), none⟩, ⟨(some 48), (.move (.tmp 47)), none⟩, ⟨(some 49), (.move (.tmp 2)), (some (48, true))⟩, ⟨(some 50), (.fieldAddr 0 (.tmp 4)), (some (48, true))⟩, ⟨(some 51), (.load none (.tmp 50)), (some (48, true))⟩, ⟨(some 52), (.bin .eql (.tmp 49) (.tmp 51)), (some (48, true))⟩, ⟨(some 53), (.move (.tmp 52)), (some (48, true))⟩, ⟨(some 54), (.move (.tmp 0)), (some (53, false))⟩, ⟨(some 55), (.load (some 5) (.tmp 8)), (some (53, false))⟩, ⟨(some 56), (.call (.func 15) [((.tmp 54), false), ((.tmp 55), false)]), (some (53, false))⟩, ⟨(some 57), (.bin .neq (.tmp 56) (.const (.int .i64 0))), (some (53, false))⟩, ⟨(some 58), (.pick (.tmp 53) (.const (.bool true)) (.tmp 57)), (some (48, true))⟩, ⟨(some 59), (.pick (.tmp 48) (.tmp 58) (.const (.bool false))), none⟩, ⟨(some 60), (.move (.tmp 59)), none⟩, ⟨(some 61), (.move (.tmp 0)), (some (60, true))⟩, ⟨(some 62), (.load (some 5) (.tmp 9)), (some (60, true))⟩, ⟨(some 63), (.call (.func 15) [((.tmp 61), false), ((.tmp 62), false)]), (some (60, true))⟩, ⟨(some 64), (.bin .neq (.tmp 63) (.const (.int .i64 0))), (some (60, true))⟩, ⟨(some 65), (.pick (.tmp 60) (.tmp 64) (.const (.bool false))), none⟩, ⟨(some 66), (.move (.tmp 65)), none⟩, ⟨(some 67), (.move (.tmp 0)), (some (66, true))⟩, ⟨(some 68), (.load (some 5) (.tmp 10)), (some (66, true))⟩, ⟨(some 69), (.call (.func 15) [((.tmp 67), false), ((.tmp 68), false)]), (some (66, true))⟩, ⟨(some 70), (.bin .neq (.tmp 69) (.const (.int .i64 0))), (some (66, true))⟩, ⟨(some 71), (.pick (.tmp 66) (.tmp 70) (.const (.bool false))), none⟩, ⟨(some 6), (.move (.tmp 71)), none⟩]) .ret))))))))))
theorem c5 : cfn E0.P [] Tryz.f5 = some (ac5, [(.tmp 6)], 72) := by kernel_rfl

theorem wide_bd {d : List Dsc} (hw : Wide d) (hs : smallT d = true) : (∀ r, r ∈ d → BD (2 ^ 30) r) ∧ d.length < 2 ^ 30 := by
  simp only [smallT, Bool.and_eq_true, decide_eq_true_eq, List.all_eq_true] at hs
  exact ⟨fun r hr => smallR_bd (hs.2 r hr) ⟨(hw.2 r hr).2.1, (hw.2 r hr).2.2.2.2.2.2.2⟩, by omega⟩
theorem few_facts {v : Val} (hv : mxV v ≤ 2 ^ 47) (h : fewT1 v = true) : v.names.length ≤ 300 ∧ v.l.length ≤ 300 ∧ szV v ≤ 300 := by
  simp only [fewT1, Bool.and_eq_true, decide_eq_true_eq] at h
  have hb := fewVs_b [v] 300 (by simp only [mxVs, List.length_nil]; omega) (by omega)
  have hz := hb.2.2 h.1
  simp only [szVs] at hz
  have h1 := h.1
  simp only [fewVs] at h1
  rw [if_pos (by omega)] at h1
  have h2 := fewV_eq v 300
  have hl : v.l.length ≤ szVs v.l := by
    generalize v.l = l
    induction l with
    | nil => simp [szVs]
    | cons a l ih => simp only [szVs, List.length_cons]; have := szV_eq a; omega
  have hze := szV_eq v
  have hn : (0 : Int) ≤ 300 - 1 - v.names.length := by
    by_cases h0 : (0 : Int) ≤ 300 - 1 - v.names.length
    · exact h0
    · rw [h2, fewVs_neg h0] at h1; omega
  refine ⟨by omega, by omega, by omega⟩
theorem mx_setN {v : Val} {x : ByteArray} (hv : mxV v ≤ 2 ^ 47) (hn : v.names.length ≤ 300) (hx : x.size ≤ 300 := by decide) : mxV (v.setN (v.names ++ [x])) ≤ 2 ^ 48 := by
  have h1 := mxV_eq (v.setN (v.names ++ [x]))
  have h2 := mxV_eq v
  have e := (set_eq v 0 (by unfold InR; decide) (v.names ++ [x]) []).2.1
  rw [e.2.2.1, e.2.2.2.1, e.2.2.2.2] at h1
  have h3 : mxB (v.names ++ [x]) ≤ 2 ^ 48 := by
    have key : ∀ (l : List ByteArray), l.length ≤ 300 → mxB l ≤ 2 ^ 47 → mxB (l ++ [x]) ≤ 2 ^ 48 := by
      intro l
      induction l with
      | nil => intro _ _; simp only [List.nil_append, mxB, List.length_nil]; omega
      | cons a l ih =>
        intro ha hb
        simp only [List.length_cons] at ha
        simp only [List.cons_append, mxB, List.length_append, List.length_singleton] at hb ⊢
        have := ih (by omega) (by omega)
        omega
    exact key _ hn (by omega)
  omega
theorem mx_setL {v x : Val} (hv : mxV v ≤ 2 ^ 47) (hn : v.l.length ≤ 300) (hx : mxV x ≤ 300 := by decide) : mxV (v.setL (v.l ++ [x])) ≤ 2 ^ 48 := by
  have h1 := mxV_eq (v.setL (v.l ++ [x]))
  have h2 := mxV_eq v
  have e := (set_eq v 0 (by unfold InR; decide) [] (v.l ++ [x])).2.2.1
  rw [e.2.2.1, e.2.2.2.1, e.2.2.2.2] at h1
  have h3 : mxVs (v.l ++ [x]) ≤ 2 ^ 48 := by
    have key : ∀ (l : List Val), l.length ≤ 300 → mxVs l ≤ 2 ^ 47 → mxVs (l ++ [x]) ≤ 2 ^ 48 := by
      intro l
      induction l with
      | nil => intro _ _; simp only [List.nil_append, mxVs, List.length_nil]; omega
      | cons a l ih =>
        intro ha hb
        simp only [List.length_cons] at ha
        simp only [List.cons_append, mxVs, List.length_append, List.length_singleton] at hb ⊢
        have := ih (by omega) (by omega)
        omega
    exact key _ hn (by omega)
  omega
theorem kinds_law (d : List Dsc) (v : Val) (k : Int) (hw : Wide d) (hv : mxV v ≤ 2 ^ 47) (hk : InR k) (h : List AObj) : EvR E0 5 [dscl d, valv v, i64 k] h (boolv true) := by
  refine Ev.drop rfl ?_
  refine ev_of (fn := Tryz.f5) (hs := []) Tryz.func5 c5 (by simp) fun hcl => ?_
  have haw := fun h => awake_ev h
  have hsm := fun h => small_ev d hw h
  have hfe := fun h => few1_ev v hv h
  simp only [valv_eq] at hfe
  have hpl := hpl h
  have gv : ∀ J : List AObj, (h ++ [AObj.cells [i64 v.kind, i64 v.n, str v.s, strl v.names, vall v.l]] ++ J)[h.length]? = some (AObj.cells [i64 v.kind, i64 v.n, str v.s, strl v.names, vall v.l]) := fun J => by simp
  cases hss : smallT d
  · rw [hss] at hsm
    simp only [ac5, valv_eq, aw20, List.take_succ_cons, List.take_zero, List.drop_zero, List.drop_succ_cons, List.length_map, ↓awD, awP, Nat.reduceLeDiff, Nat.reduceEqDiff, Nat.reduceAdd, Nat.zero_add, Int.cast_ofNat_Int, Int.reduceLT, Int.reduceLE, Int.reduceEq]
    ((first | refine EvF.ret (haw _) ?_ | refine EvRF.ret (haw _) ?_); simp only [aw21, aw21, aw20, List.take_succ_cons, List.take_zero, List.drop_zero, List.drop_succ_cons, List.length_map, ↓awD, awP, Nat.reduceLeDiff, Nat.reduceEqDiff, Nat.reduceAdd, Nat.zero_add, Int.cast_ofNat_Int, Int.reduceLT, Int.reduceLE, Int.reduceEq])
    ((first | refine EvF.ret (hsm _) ?_ | refine EvRF.ret (hsm _) ?_); simp only [aw21, aw21, aw20, List.take_succ_cons, List.take_zero, List.drop_zero, List.drop_succ_cons, List.length_map, ↓awD, awP, Nat.reduceLeDiff, Nat.reduceEqDiff, Nat.reduceAdd, Nat.zero_add, Int.cast_ofNat_Int, Int.reduceLT, Int.reduceLE, Int.reduceEq])
    exact Fin.all (by simp) ⟨rfl, _, rfl⟩
  · rw [hss] at hsm
    obtain ⟨hBD, hdl⟩ := wide_bd hw hss
    cases hff : fewT1 v
    · rw [hff] at hfe
      simp only [ac5, valv_eq, aw20, List.take_succ_cons, List.take_zero, List.drop_zero, List.drop_succ_cons, List.length_map, ↓awD, awP, Nat.reduceLeDiff, Nat.reduceEqDiff, Nat.reduceAdd, Nat.zero_add, Int.cast_ofNat_Int, Int.reduceLT, Int.reduceLE, Int.reduceEq]
      ((first | refine EvF.ret (haw _) ?_ | refine EvRF.ret (haw _) ?_); simp only [aw21, aw21, aw20, List.take_succ_cons, List.take_zero, List.drop_zero, List.drop_succ_cons, List.length_map, ↓awD, awP, Nat.reduceLeDiff, Nat.reduceEqDiff, Nat.reduceAdd, Nat.zero_add, Int.cast_ofNat_Int, Int.reduceLT, Int.reduceLE, Int.reduceEq])
      ((first | refine EvF.ret (hsm _) ?_ | refine EvRF.ret (hsm _) ?_); simp only [aw21, aw21, aw20, List.take_succ_cons, List.take_zero, List.drop_zero, List.drop_succ_cons, List.length_map, ↓awD, awP, Nat.reduceLeDiff, Nat.reduceEqDiff, Nat.reduceAdd, Nat.zero_add, Int.cast_ofNat_Int, Int.reduceLT, Int.reduceLE, Int.reduceEq])
      ((first | refine EvF.ret (hfe _) ?_ | refine EvRF.ret (hfe _) ?_); simp only [aw21, aw21, aw20, List.take_succ_cons, List.take_zero, List.drop_zero, List.drop_succ_cons, List.length_map, ↓awD, awP, Nat.reduceLeDiff, Nat.reduceEqDiff, Nat.reduceAdd, Nat.zero_add, Int.cast_ofNat_Int, Int.reduceLT, Int.reduceLE, Int.reduceEq])
      exact Fin.all (by simp) ⟨rfl, _, rfl⟩
    · rw [hff] at hfe
      have hch := fun h => check_ev d hBD hdl v (by omega) h
      simp only [valv_eq] at hch
      cases hcc : decide (checkT d v = 0)
      · simp only [ac5, valv_eq, aw20, List.take_succ_cons, List.take_zero, List.drop_zero, List.drop_succ_cons, List.length_map, ↓awD, awP, Nat.reduceLeDiff, Nat.reduceEqDiff, Nat.reduceAdd, Nat.zero_add, Int.cast_ofNat_Int, Int.reduceLT, Int.reduceLE, Int.reduceEq]
        ((first | refine EvF.ret (haw _) ?_ | refine EvRF.ret (haw _) ?_); simp only [aw21, aw21, aw20, List.take_succ_cons, List.take_zero, List.drop_zero, List.drop_succ_cons, List.length_map, ↓awD, awP, Nat.reduceLeDiff, Nat.reduceEqDiff, Nat.reduceAdd, Nat.zero_add, Int.cast_ofNat_Int, Int.reduceLT, Int.reduceLE, Int.reduceEq])
        ((first | refine EvF.ret (hsm _) ?_ | refine EvRF.ret (hsm _) ?_); simp only [aw21, aw21, aw20, List.take_succ_cons, List.take_zero, List.drop_zero, List.drop_succ_cons, List.length_map, ↓awD, awP, Nat.reduceLeDiff, Nat.reduceEqDiff, Nat.reduceAdd, Nat.zero_add, Int.cast_ofNat_Int, Int.reduceLT, Int.reduceLE, Int.reduceEq])
        ((first | refine EvF.ret (hfe _) ?_ | refine EvRF.ret (hfe _) ?_); simp only [aw21, aw21, aw20, List.take_succ_cons, List.take_zero, List.drop_zero, List.drop_succ_cons, List.length_map, ↓awD, awP, Nat.reduceLeDiff, Nat.reduceEqDiff, Nat.reduceAdd, Nat.zero_add, Int.cast_ofNat_Int, Int.reduceLT, Int.reduceLE, Int.reduceEq])
        ((first | refine EvF.ret (hch _) ?_ | refine EvRF.ret (hch _) ?_); simp only [hcc, aw21, aw20, List.take_succ_cons, List.take_zero, List.drop_zero, List.drop_succ_cons, List.length_map, ↓awD, awP, Nat.reduceLeDiff, Nat.reduceEqDiff, Nat.reduceAdd, Nat.zero_add, Int.cast_ofNat_Int, Int.reduceLT, Int.reduceLE, Int.reduceEq])
        exact Fin.all (by simp) ⟨rfl, _, rfl⟩
      · have hc0 := of_decide_eq_true hcc
        simp only [ac5, valv_eq, aw20, List.take_succ_cons, List.take_zero, List.drop_zero, List.drop_succ_cons, List.length_map, ↓awD, awP, Nat.reduceLeDiff, Nat.reduceEqDiff, Nat.reduceAdd, Nat.zero_add, Int.cast_ofNat_Int, Int.reduceLT, Int.reduceLE, Int.reduceEq]
        ((first | refine EvF.ret (haw _) ?_ | refine EvRF.ret (haw _) ?_); simp only [aw21, aw21, aw20, List.take_succ_cons, List.take_zero, List.drop_zero, List.drop_succ_cons, List.length_map, ↓awD, awP, Nat.reduceLeDiff, Nat.reduceEqDiff, Nat.reduceAdd, Nat.zero_add, Int.cast_ofNat_Int, Int.reduceLT, Int.reduceLE, Int.reduceEq])
        ((first | refine EvF.ret (hsm _) ?_ | refine EvRF.ret (hsm _) ?_); simp only [aw21, aw21, aw20, List.take_succ_cons, List.take_zero, List.drop_zero, List.drop_succ_cons, List.length_map, ↓awD, awP, Nat.reduceLeDiff, Nat.reduceEqDiff, Nat.reduceAdd, Nat.zero_add, Int.cast_ofNat_Int, Int.reduceLT, Int.reduceLE, Int.reduceEq])
        ((first | refine EvF.ret (hfe _) ?_ | refine EvRF.ret (hfe _) ?_); simp only [aw21, aw21, aw20, List.take_succ_cons, List.take_zero, List.drop_zero, List.drop_succ_cons, List.length_map, ↓awD, awP, Nat.reduceLeDiff, Nat.reduceEqDiff, Nat.reduceAdd, Nat.zero_add, Int.cast_ofNat_Int, Int.reduceLT, Int.reduceLE, Int.reduceEq])
        ((first | refine EvF.ret (hch _) ?_ | refine EvRF.ret (hch _) ?_); simp only [hcc, hpl, aw21, aw20, List.take_succ_cons, List.take_zero, List.drop_zero, List.drop_succ_cons, List.length_map, ↓awD, awP, Nat.reduceLeDiff, Nat.reduceEqDiff, Nat.reduceAdd, Nat.zero_add, Int.cast_ofNat_Int, Int.reduceLT, Int.reduceLE, Int.reduceEq])
        obtain ⟨hnl, hll, hsz⟩ := few_facts hv hff
        refine Need.mk ⟨rfl, by decide, by decide, by simp [litParts]⟩ ?_
        have n12 : InR 12 := by unfold InR; decide
        have hk1 := fun h => check_ev d hBD hdl (v.setK k hk) (by rw [mxV_eq] at hv ⊢; exact Nat.le_trans hv (by decide)) h
        have hk2 := fun h => check_ev d hBD hdl (v.setN (v.names ++ [⟨#[110, 111, 45, 115, 117, 99, 104, 45, 110, 97, 109, 101]⟩])) (mx_setN hv hnl) h
        have hk3 := fun h => check_ev d hBD hdl (v.setL (v.l ++ [val0])) (mx_setL hv hll) h
        have e1 := (set_eq v k hk (v.names ++ [⟨#[110, 111, 45, 115, 117, 99, 104, 45, 110, 97, 109, 101]⟩]) []).2.1
        have e2 := (set_eq v k hk [] (v.l ++ [val0])).2.2.1
        have e3 := (set_eq v k hk [] []).1
        rw [valv_eq, e3.1, e3.2.1, e3.2.2.1, e3.2.2.2.1, e3.2.2.2.2] at hk1
        rw [valv_eq, e1.1, e1.2.1, e1.2.2.1, e1.2.2.2.1, e1.2.2.2.2, strl, List.map_append] at hk2
        rw [valv_eq, e2.1, e2.2.1, e2.2.2.1, e2.2.2.2.1, e2.2.2.2.2, vall, List.map_append] at hk3
        have hk3' : ∀ h, EvR E0 15 [dscl d, .agg [i64 v.kind, i64 v.n, str v.s, strl v.names, .sl .unk (v.l.map valv ++ [.agg [i64 0, i64 0, str ⟨#[]⟩, .sl .full [], .sl .full []]])]] h (i64 (checkT d (v.setL (v.l ++ [val0])))) := fun h => (hk3 h).high (by
          simp only [lows, AV.low, lows_append, low_dscl, low_vall, low_strs]
          rfl)
        have q2 : decide (checkT d (v.setN (v.names ++ [⟨#[110, 111, 45, 115, 117, 99, 104, 45, 110, 97, 109, 101]⟩])) = 0) = false := decide_eq_false (kinds_n hc0 _)
        have q3 : decide (checkT d (v.setL (v.l ++ [val0])) = 0) = false := decide_eq_false (kinds_l hc0)
        have q1 : decide (k = v.kind) = false → decide (checkT d (v.setK k hk) = 0) = false := fun hne => decide_eq_false (kinds_k hc0 hk (of_decide_eq_false hne))
        simp only [hpl, List.nil_append, aw20, List.take_succ_cons, List.take_zero, List.drop_zero, List.drop_succ_cons, List.length_map, ↓awD, awP, Nat.reduceLeDiff, Nat.reduceEqDiff, Nat.reduceAdd, Nat.zero_add, Int.cast_ofNat_Int, Int.reduceLT, Int.reduceLE, Int.reduceEq]
        (refine Need.mk (by (repeat' apply And.intro) <;> first | decide | rfl | exact .inr (fun e he => by cases he) | exact .inl rfl | exact .inl trivial | exact fit_strs _ | exact one_strs _ | exact fit_vals _ | exact one_vals _ | exact fit_str _ | exact one_str _ | (intro e he; simp at he; subst he; exact ⟨rfl, rfl⟩) | (intro e he; simp at he; subst he; rfl) | (simp; omega) | omega | skip) ?_; simp only [hpl, List.nil_append, hpl, aw20, List.take_succ_cons, List.take_zero, List.drop_zero, List.drop_succ_cons, List.length_map, ↓awD, awP, Nat.reduceLeDiff, Nat.reduceEqDiff, Nat.reduceAdd, Nat.zero_add, Int.cast_ofNat_Int, Int.reduceLT, Int.reduceLE, Int.reduceEq])
        (refine Need.mk (by simp only [litParts, List.mem_cons, List.not_mem_nil, or_false, forall_eq_or_imp, forall_eq]; refine ⟨by decide, by decide, by decide, ?_⟩; repeat' (first | exact ⟨rfl, rfl, rfl⟩ | rfl | constructor)) ?_; simp only [hpl, aw20, List.take_succ_cons, List.take_zero, List.drop_zero, List.drop_succ_cons, List.length_map, ↓awD, awP, Nat.reduceLeDiff, Nat.reduceEqDiff, Nat.reduceAdd, Nat.zero_add, Int.cast_ofNat_Int, Int.reduceLT, Int.reduceLE, Int.reduceEq])
        (refine Need.mk (by (repeat' apply And.intro) <;> first | decide | rfl | exact .inr (fun e he => by cases he) | exact .inl rfl | exact .inl trivial | exact fit_strs _ | exact one_strs _ | exact fit_vals _ | exact one_vals _ | exact fit_str _ | exact one_str _ | (intro e he; simp at he; subst he; exact ⟨rfl, rfl⟩) | (intro e he; simp at he; subst he; rfl) | (simp; omega) | omega | skip) ?_; simp only [hpl, List.nil_append, hpl, aw20, List.take_succ_cons, List.take_zero, List.drop_zero, List.drop_succ_cons, List.length_map, ↓awD, awP, Nat.reduceLeDiff, Nat.reduceEqDiff, Nat.reduceAdd, Nat.zero_add, Int.cast_ofNat_Int, Int.reduceLT, Int.reduceLE, Int.reduceEq])
        refine Need.mk ⟨rfl, by decide, by decide, by simp [litParts]⟩ ?_
        have hk3' : ∀ h, EvR E0 15 [dscl d, .agg [i64 v.kind, i64 v.n, str v.s, strl v.names, .sl .unk (v.l.map valv ++ [.agg [i64 0, i64 0, str ⟨#[]⟩, .sl .full [], .sl .full []]])]] h (i64 (checkT d (v.setL (v.l ++ [val0])))) := fun h => (hk3 h).high (by
          simp only [lows, AV.low, lows_append, low_dscl, low_vall, low_strs]
          rfl)
        have q2 : decide (checkT d (v.setN (v.names ++ [⟨#[110, 111, 45, 115, 117, 99, 104, 45, 110, 97, 109, 101]⟩])) = 0) = false := decide_eq_false (kinds_n hc0 _)
        have q3 : decide (checkT d (v.setL (v.l ++ [val0])) = 0) = false := decide_eq_false (kinds_l hc0)
        have q1 : decide (k = v.kind) = false → decide (checkT d (v.setK k hk) = 0) = false := fun hne => decide_eq_false (kinds_k hc0 hk (of_decide_eq_false hne))
        simp only [hpl, List.nil_append, aw20, List.take_succ_cons, List.take_zero, List.drop_zero, List.drop_succ_cons, List.length_map, ↓awD, awP, Nat.reduceLeDiff, Nat.reduceEqDiff, Nat.reduceAdd, Nat.zero_add, Int.cast_ofNat_Int, Int.reduceLT, Int.reduceLE, Int.reduceEq]
        (refine Need.mk (by (repeat' apply And.intro) <;> first | decide | rfl | exact .inr (fun e he => by cases he) | exact .inl rfl | exact .inl trivial | exact fit_strs _ | exact one_strs _ | exact fit_vals _ | exact one_vals _ | exact fit_str _ | exact one_str _ | (intro e he; simp at he; subst he; exact ⟨rfl, rfl⟩) | (intro e he; simp at he; subst he; rfl) | (simp; omega) | omega | skip) ?_; simp only [hpl, List.nil_append, hpl, aw20, List.take_succ_cons, List.take_zero, List.drop_zero, List.drop_succ_cons, List.length_map, ↓awD, awP, Nat.reduceLeDiff, Nat.reduceEqDiff, Nat.reduceAdd, Nat.zero_add, Int.cast_ofNat_Int, Int.reduceLT, Int.reduceLE, Int.reduceEq])
        (refine Need.mk (by simp only [litParts, List.mem_cons, List.not_mem_nil, or_false, forall_eq_or_imp, forall_eq]; refine ⟨by decide, by decide, by decide, ?_⟩; repeat' (first | exact ⟨rfl, rfl, rfl⟩ | rfl | constructor)) ?_; simp only [hpl, aw20, List.take_succ_cons, List.take_zero, List.drop_zero, List.drop_succ_cons, List.length_map, ↓awD, awP, Nat.reduceLeDiff, Nat.reduceEqDiff, Nat.reduceAdd, Nat.zero_add, Int.cast_ofNat_Int, Int.reduceLT, Int.reduceLE, Int.reduceEq])
        (refine Need.mk (by (repeat' apply And.intro) <;> first | decide | rfl | exact .inr (fun e he => by cases he) | exact .inl rfl | exact .inl trivial | exact fit_strs _ | exact one_strs _ | exact fit_vals _ | exact one_vals _ | exact fit_str _ | exact one_str _ | (intro e he; simp at he; subst he; exact ⟨rfl, rfl⟩) | (intro e he; simp at he; subst he; rfl) | (simp; omega) | omega | skip) ?_; simp only [hpl, List.nil_append, hpl, aw20, List.take_succ_cons, List.take_zero, List.drop_zero, List.drop_succ_cons, List.length_map, ↓awD, awP, Nat.reduceLeDiff, Nat.reduceEqDiff, Nat.reduceAdd, Nat.zero_add, Int.cast_ofNat_Int, Int.reduceLT, Int.reduceLE, Int.reduceEq])
        cases hkk : decide (k = v.kind)
        · have q1 := q1 hkk
          simp only [hpl, q1, q2, q3, aw20, List.take_succ_cons, List.take_zero, List.drop_zero, List.drop_succ_cons, List.length_map, ↓awD, awP, Nat.reduceLeDiff, Nat.reduceEqDiff, Nat.reduceAdd, Nat.zero_add, Int.cast_ofNat_Int, Int.reduceLT, Int.reduceLE, Int.reduceEq]
          repeat' (first | ((first | refine EvF.ret (hk1 _) ?_ | refine EvRF.ret (hk1 _) ?_); simp only [hpl, q1, q2, q3, aw21, aw20, List.take_succ_cons, List.take_zero, List.drop_zero, List.drop_succ_cons, List.length_map, ↓awD, awP, Nat.reduceLeDiff, Nat.reduceEqDiff, Nat.reduceAdd, Nat.zero_add, Int.cast_ofNat_Int, Int.reduceLT, Int.reduceLE, Int.reduceEq]) | ((first | refine EvF.ret (hk2 _) ?_ | refine EvRF.ret (hk2 _) ?_); simp only [hpl, q1, q2, q3, aw21, aw20, List.take_succ_cons, List.take_zero, List.drop_zero, List.drop_succ_cons, List.length_map, ↓awD, awP, Nat.reduceLeDiff, Nat.reduceEqDiff, Nat.reduceAdd, Nat.zero_add, Int.cast_ofNat_Int, Int.reduceLT, Int.reduceLE, Int.reduceEq]) | ((first | refine EvF.ret (hk3' _) ?_ | refine EvRF.ret (hk3' _) ?_); simp only [hpl, q1, q2, q3, aw21, aw20, List.take_succ_cons, List.take_zero, List.drop_zero, List.drop_succ_cons, List.length_map, ↓awD, awP, Nat.reduceLeDiff, Nat.reduceEqDiff, Nat.reduceAdd, Nat.zero_add, Int.cast_ofNat_Int, Int.reduceLT, Int.reduceLE, Int.reduceEq]))
          exact Fin.all (by simp) ⟨rfl, [_, _, _, _], by simp; exact ⟨rfl, rfl, rfl, rfl⟩⟩
        · simp only [hpl, q2, q3, aw20, List.take_succ_cons, List.take_zero, List.drop_zero, List.drop_succ_cons, List.length_map, ↓awD, awP, Nat.reduceLeDiff, Nat.reduceEqDiff, Nat.reduceAdd, Nat.zero_add, Int.cast_ofNat_Int, Int.reduceLT, Int.reduceLE, Int.reduceEq]
          repeat' (first | ((first | refine EvF.ret (hk1 _) ?_ | refine EvRF.ret (hk1 _) ?_); simp only [hpl, q2, q3, aw21, aw20, List.take_succ_cons, List.take_zero, List.drop_zero, List.drop_succ_cons, List.length_map, ↓awD, awP, Nat.reduceLeDiff, Nat.reduceEqDiff, Nat.reduceAdd, Nat.zero_add, Int.cast_ofNat_Int, Int.reduceLT, Int.reduceLE, Int.reduceEq]) | ((first | refine EvF.ret (hk2 _) ?_ | refine EvRF.ret (hk2 _) ?_); simp only [hpl, q2, q3, aw21, aw20, List.take_succ_cons, List.take_zero, List.drop_zero, List.drop_succ_cons, List.length_map, ↓awD, awP, Nat.reduceLeDiff, Nat.reduceEqDiff, Nat.reduceAdd, Nat.zero_add, Int.cast_ofNat_Int, Int.reduceLT, Int.reduceLE, Int.reduceEq]) | ((first | refine EvF.ret (hk3' _) ?_ | refine EvRF.ret (hk3' _) ?_); simp only [hpl, q2, q3, aw21, aw20, List.take_succ_cons, List.take_zero, List.drop_zero, List.drop_succ_cons, List.length_map, ↓awD, awP, Nat.reduceLeDiff, Nat.reduceEqDiff, Nat.reduceAdd, Nat.zero_add, Int.cast_ofNat_Int, Int.reduceLT, Int.reduceLE, Int.reduceEq]))
          exact Fin.all (by simp) ⟨rfl, [_, _, _, _], by simp; exact ⟨rfl, rfl, rfl, rfl⟩⟩
end Go.Abs.Fr

namespace Go.Abs.Fr
open Go Go.Abs Go.Proofs
set_option linter.unusedSimpArgs false
set_option maxRecDepth 100000

theorem mxB_le {M : Nat} : ∀ {l : List ByteArray}, (∀ s, s ∈ l → s.size ≤ M) → l.length ≤ M → mxB l ≤ M
  | [], _, _ => Nat.zero_le _
  | s :: l, h, hl => by
    simp only [List.length_cons] at hl
    have := mxB_le (l := l) (fun x hx => h x (List.mem_cons_of_mem _ hx)) (by omega)
    have := h s List.mem_cons_self
    simp only [mxB]; omega
theorem mxVs_le {M : Nat} : ∀ {l : List Val}, (∀ s, s ∈ l → mxV s ≤ M) → l.length ≤ M → mxVs l ≤ M
  | [], _, _ => Nat.zero_le _
  | s :: l, h, hl => by
    simp only [List.length_cons] at hl
    have := mxVs_le (l := l) (fun x hx => h x (List.mem_cons_of_mem _ hx)) (by omega)
    have := h s List.mem_cons_self
    simp only [mxVs]; omega
theorem mx_canF {C : Int → Val → Val} {r : Dsc} {v : Val} (hr : BD (2 ^ 30) r) (hv : mxV v ≤ 2 ^ 47) (hC : ∀ t y, mxV y ≤ 2 ^ 47 → mxV (C t y) ≤ 2 ^ 48) : mxV (canF C r v) ≤ 2 ^ 48 := by
  have h1 := mxV_le v
  have hl := mxVs_len v.l
  have hfl : r.fields.length ≤ 2 ^ 31 := by have := hr.2.2.2.2.1; have := hr.2.2.2.2.2.1; simp only [Dsc.fields, List.length_append]; omega
  have hm : ∀ {y : Val}, y ∈ v.l → mxV y ≤ 2 ^ 47 := fun hy => by have := mxVs_mem hy; omega
  unfold canF
  cases decide (v.kind = 8)
  · cases decide (v.kind = 10)
    · cases decide (v.kind = 9)
      · simp only [cond_false]
        rw [mxV_eq]
        show max (max v.s.size (mxB [])) (mxVs []) ≤ _
        simp only [mxB, mxVs]; omega
      · simp only [cond_false, cond_true]
        rw [mxV_eq]
        show max (max v.s.size (mxB [])) (mxVs (v.l.map (C r.elem))) ≤ _
        have : mxVs (v.l.map (C r.elem)) ≤ 2 ^ 48 := mxVs_le (fun s hs => by obtain ⟨y, hy, rfl⟩ := List.mem_map.1 hs; exact hC _ _ (hm hy)) (by rw [List.length_map]; omega)
        simp only [mxB]; omega
    · simp only [cond_false, cond_true]
      rw [mxV_eq]
      show max (max v.s.size (mxB [])) (mxVs (canC C v r.fields)) ≤ _
      have : mxVs (canC C v r.fields) ≤ 2 ^ 48 := by
        unfold canC
        split
        · rename_i f x hf hx
          refine mxVs_le (fun s hs => ?_) (by simp)
          rw [List.mem_singleton.1 hs]
          exact hC _ _ (hm (List.mem_of_mem_head? hx))
        · simp [mxVs]
      simp only [mxB]; omega
  · simp only [cond_true]
    rw [mxV_eq]
    show max (max v.s.size (mxB (canN v r.fields))) (mxVs (canL C v r.fields)) ≤ _
    have h2 : mxB (canN v r.fields) ≤ 2 ^ 48 := by
      refine mxB_le (fun s hs => ?_) (Nat.le_trans (canN_len v r.fields) (by omega))
      simp only [canN, List.mem_filterMap, Option.map_eq_some_iff] at hs
      obtain ⟨f, hf, y, _, rfl⟩ := hs
      have := (hr.fields f hf).1
      omega
    have h3 : mxVs (canL C v r.fields) ≤ 2 ^ 48 := by
      refine mxVs_le (fun s hs => ?_) (Nat.le_trans (canL_len C v r.fields) (by omega))
      simp only [canL, List.mem_filterMap, Option.map_eq_some_iff] at hs
      obtain ⟨f, hf, y, hy, rfl⟩ := hs
      refine hC _ _ ?_
      unfold pick at hy
      split at hy
      · exact hm (List.mem_of_getElem? hy)
      · have := mxVs_mem (List.mem_of_mem_head? hy)
        have := (hr.fields f hf).2
        omega
    omega
theorem rowAt_bd {d : List Dsc} (hd : ∀ r, r ∈ d → BD (2 ^ 30) r) (t : Int) : BD (2 ^ 30) (rowAt d t) := by
  unfold rowAt
  rw [List.getD_eq_getElem?_getD]
  cases h : d[t.toNat]? with
  | none => exact ⟨by decide, by decide, by decide, by decide, by decide, by decide, by decide, (fun f hf => by cases hf), (fun f hf => by cases hf)⟩
  | some r => exact hd r (List.mem_of_getElem? h)
theorem mx_can {d : List Dsc} (hd : ∀ r, r ∈ d → BD (2 ^ 30) r) : ∀ (k : Nat) (t : Int) (v : Val), mxV v ≤ 2 ^ 47 → mxV (canV d k t v) ≤ 2 ^ 48
  | 0, t, v, hv => mx_canF (rowAt_bd hd t) hv fun t y hy => by omega
  | k + 1, t, v, hv => mx_canF (rowAt_bd hd t) hv fun t y hy => mx_can hd k t y hy
end Go.Abs.Fr
