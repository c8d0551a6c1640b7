/- The rows' common part: what the listed variables hold, a start that fits. -/
import Derived.Test.YtgbedffflggenaaDoorS18FrRd
import Derived.Test.YtgbedffflggenaaDoorRows
import Derived.SizedLaws
import Derived.ChangeSame
import Derived.ChangeVars
import Derived.ChangeMaps5
import Derived.JoinedOf
import Derived.JoinedAt
import Derived.RowKit
import Derived.RowKit3
import Derived.RowKitTokens
import Derived.LaidLaws
import Derived.Stop.LaidErr
import Derived.Deep.DeepLaidRun
import Derived.ProofKit
import Derived.Test.YtgbedffflggenaaDoorS18FrK
set_option linter.all false
namespace Go.Proofs.YtgbedffflggenaaDoor
open Go.ChangeShapes Go.WideShapes Go.ChangeAt Go.RowKit

theorem Tryd.own : ownKnob Tryd.prog.godebug = none := by kernel_rfl
theorem Tryd.gP10 : Tryd.prog.globalNamed "internal/strconv.uint64pow10" = some 1 := by kernel_rfl

abbrev lst : List (String × DataW Unit) := [("math/bits.deBruijn32tab", Rows.laid_math_bits_deBruijn32tab), ("math/bits.deBruijn64tab", Rows.laid_math_bits_deBruijn64tab), ("internal/strconv.uint64pow10", Rows.laid_internal_strconv_uint64pow10)]

theorem Tryd.p10type : ∃ t n e, (Tryd.prog.globals[1]?).map (·.type) = some t ∧ Tryd.prog.underlying t = some (.array n e) ∧ Tryd.prog.underlying e = some (.int .u64) ∧ Tryd.prog.cellsOf e = 1 ∧ Tryd.prog.cellsOf t = n :=
  ⟨120, 20, 104, by kernel_rfl, by kernel_rfl, by kernel_rfl, by kernel_rfl, by kernel_rfl⟩

theorem tab_of_laid {W : World} (hL : laidMet Tryd.prog lst W) : Lib.TabIs Tryd.prog W "internal/strconv.uint64pow10" .u64 Lib.pow10Tab := by
  obtain ⟨t, n, e, h1, h2, h3, h4, h5⟩ := Tryd.p10type
  exact Lib.tabIs_of_head Tryd.gP10 h1 h2 h3 h4 h5 (show laidMet Tryd.prog (("internal/strconv.uint64pow10", Lib.tabData .u64 Lib.pow10Tab) :: []) W from hL.tail.tail)

theorem glOk_of_laid {W : World} (hL : laidMet Tryd.prog lst W) : Go.Abs.GlOk Go.Abs.Fr.E0 W (Go.Abs.Gh.all W) := by
  have ht := tab_of_laid hL
  intro i cs hi
  change Go.Abs.Fr.gl18 i = some cs at hi
  have hb : ∃ e fr, W.heap[1]? = some (.cells (Lib.pow10Tab.map fun z => Value.int .u64 z).toArray e fr) := by
    have h := ht
    unfold Lib.TabIs World.var? at h
    rw [Tryd.gP10] at h
    simp only [Option.bind_some] at h
    split at h
    · rename_i c e fr he
      cases h
      exact ⟨e, fr, he⟩
    · cases h
  obtain ⟨e, fr, hb⟩ := hb
  have hlt : 1 < W.heap.size := by
    rcases Nat.lt_or_ge 1 W.heap.size with h | h
    · exact h
    · rw [Array.getElem?_eq_none h] at hb; cases hb
  unfold Go.Abs.Fr.gl18 at hi
  split at hi
  · rename_i hi0
    subst hi0
    cases hi
    refine ⟨Lib.pow10Tab.map fun z => Value.int .u64 z, Go.Abs.holds_all fun j u hj => ?_, ?_, ⟨e, fr, hb⟩, fun off => by simp only [Go.Abs.Gh.all]; rw [if_pos hlt]⟩
    · have := World.var?_cell Tryd.gP10 ht (0 + j)
      rw [this]; simpa using hj
    · refine Go.Abs.Reps.of_get (by simp) fun i a v ha hv => ?_
      simp only [List.getElem?_map, Option.map_eq_some_iff] at ha hv
      obtain ⟨z, hz, rfl⟩ := ha
      obtain ⟨z', hz', rfl⟩ := hv
      rw [hz] at hz'; cases hz'
      exact Go.Abs.Rep.lit_iff.2 rfl
  · cases hi

/-! ### One start that fits -/
def setCells (cs : Array Value) : Obj → Obj
  | .cells _ t frozen => .cells cs t frozen
  | o => o
noncomputable def laidWorld (os : Os) : World :=
  let w0 := World.holding Tryd.prog os ⟨#[], #[], []⟩
  { w0 with heap := (((w0.heap.modify 1 (setCells #[.int .u64 1, .int .u64 10, .int .u64 100, .int .u64 1000, .int .u64 10000, .int .u64 100000, .int .u64 1000000, .int .u64 10000000, .int .u64 100000000, .int .u64 1000000000, .int .u64 10000000000, .int .u64 100000000000, .int .u64 1000000000000, .int .u64 10000000000000, .int .u64 100000000000000, .int .u64 1000000000000000, .int .u64 10000000000000000, .int .u64 100000000000000000, .int .u64 1000000000000000000, .int .u64 10000000000000000000])).modify 2 (setCells #[.int .u8 0, .int .u8 1, .int .u8 28, .int .u8 2, .int .u8 29, .int .u8 14, .int .u8 24, .int .u8 3, .int .u8 30, .int .u8 22, .int .u8 20, .int .u8 15, .int .u8 25, .int .u8 17, .int .u8 4, .int .u8 8, .int .u8 31, .int .u8 27, .int .u8 13, .int .u8 23, .int .u8 21, .int .u8 19, .int .u8 16, .int .u8 7, .int .u8 26, .int .u8 12, .int .u8 18, .int .u8 6, .int .u8 11, .int .u8 5, .int .u8 10, .int .u8 9])).modify 3 (setCells #[.int .u8 0, .int .u8 1, .int .u8 56, .int .u8 2, .int .u8 57, .int .u8 49, .int .u8 28, .int .u8 3, .int .u8 61, .int .u8 58, .int .u8 42, .int .u8 50, .int .u8 38, .int .u8 29, .int .u8 17, .int .u8 4, .int .u8 62, .int .u8 47, .int .u8 59, .int .u8 36, .int .u8 45, .int .u8 43, .int .u8 51, .int .u8 22, .int .u8 53, .int .u8 39, .int .u8 33, .int .u8 30, .int .u8 24, .int .u8 18, .int .u8 12, .int .u8 5, .int .u8 63, .int .u8 55, .int .u8 48, .int .u8 27, .int .u8 60, .int .u8 41, .int .u8 37, .int .u8 16, .int .u8 46, .int .u8 35, .int .u8 44, .int .u8 21, .int .u8 52, .int .u8 32, .int .u8 23, .int .u8 11, .int .u8 54, .int .u8 26, .int .u8 40, .int .u8 15, .int .u8 34, .int .u8 20, .int .u8 31, .int .u8 10, .int .u8 25, .int .u8 14, .int .u8 19, .int .u8 9, .int .u8 13, .int .u8 8, .int .u8 7, .int .u8 6])) }
theorem laidWorld_met (os : Os) (args : Array Value) : laidMet Tryd.prog lst ((laidWorld os).forCall (fun _ _ => 0) ⟨#[], args, []⟩).memory :=
  laidMet_of_run3 8 (by kernel_rfl) (by kernel_rfl) (by kernel_rfl)

theorem Tryd.laidOut : laidOutB Tryd.prog = true := by kernel_rfl

set_option maxRecDepth 100000 in
/-- A list of functions, as it is read, stands for one. -/
theorem funs_args {H : Type} {enc : TypeId × Value → H} {W : World} {base : Nat} {v : Value} {d : DataW H} {ps : List MemPlace} (hval : Value.okWide Tryd.prog W .any base 22 v) (h : DataW.Trod enc Tryd.prog W 0 (fun _ => true) true 22 v d ps)
    (hw : (d.weights Tryd.prog 22).all (· ≤ reachBytes) = true) :
    ∃ l : List Go.Abs.Fr.Fun, Go.Abs.Fr.mxF l ≤ 2 ^ 48 ∧ Go.Abs.Rep W (Go.Abs.Gh.all W) 0 (Go.Abs.Fr.funsv l) v := by
  obtain ⟨a, len, cap, rfl⟩ := okWide_slice (show Tryd.prog.underlying 22 = some (.slice 31) from Go.Abs.Fr.u22) hval
  obtain ⟨fuel, hf⟩ := h
  obtain ⟨l, hl, hr⟩ := (Go.Abs.Fr.rd_funs fuel).one (fun _ => ⟨rfl, rfl⟩) hf hw
  exact ⟨l, Nat.le_trans hl (by unfold reachBytes; decide), hr⟩
theorem argsOk1 {W : World} {g : Go.Abs.Gh} {a : Go.Abs.AV} {v : Value} (h : Go.Abs.Rep W g 0 a v) (hs : ∀ s, Go.Abs.SpareOk W g 0 s a v) : Go.Abs.argsOk W g 0 [a] #[v] := by
  refine ⟨rfl, fun i av hi => ?_⟩
  match i, hi with
  | 0, hi => cases hi; exact ⟨_, rfl, h, hs _⟩
theorem argsOk2 {W : World} {g : Go.Abs.Gh} {a b : Go.Abs.AV} {v u : Value} (h : Go.Abs.Rep W g 0 a v) (hs : ∀ s, Go.Abs.SpareOk W g 0 s a v) (h' : Go.Abs.Rep W g 0 b u) (hs' : ∀ s, Go.Abs.SpareOk W g 0 s b u) : Go.Abs.argsOk W g 0 [a, b] #[v, u] := by
  refine ⟨rfl, fun i av hi => ?_⟩
  match i, hi with
  | 0, hi => cases hi; exact ⟨_, rfl, h, hs _⟩
  | 1, hi => cases hi; exact ⟨_, rfl, h', hs' _⟩
end Go.Proofs.YtgbedffflggenaaDoor

namespace Go.Abs.Fr
open Go Go.Abs Go.Proofs
set_option linter.unusedSimpArgs false
set_option maxRecDepth 100000

def aln (c : UInt8) : Bool := isLet c || isDig c

theorem wl_chars (p : Nat → UInt8) : ∀ (f n R : Nat), wl p f n = (R, true) → ∀ k, n ≤ k → k < R → aln (p k) = true ∨ isC 45 (p k) = true
  | 0, n, R, h, k, h1, h2 => by simp only [wl, Prod.mk.injEq, and_true] at h; omega
  | f + 1, n, R, h, k, h1, h2 => by
    simp only [wl] at h
    split at h
    · rename_i ha
      by_cases hk : k = n
      · subst hk; exact .inl ha
      · exact wl_chars p f (n + 1) R h k (by omega) h2
    · split at h
      · simp only [Prod.mk.injEq, and_true] at h; omega
      · rename_i hb
        simp only [Bool.or_eq_true, Bool.not_eq_true', not_or, Bool.not_eq_false] at hb
        split at h
        · simp at h
        · by_cases hk : k = n
          · subst hk; exact .inr hb.1
          · exact wl_chars p f (n + 1) R h k (by omega) h2

theorem whl_chars {b : List UInt8} (h : whl b = true) : 0 < b.length ∧ isLet (pk b 0) = true ∧ ∀ c, c ∈ b → aln c = true ∨ isC 45 c = true := by
  unfold whl at h
  simp only [Bool.and_eq_true, decide_eq_true_eq] at h
  obtain ⟨⟨h1, h2⟩, h3⟩ := h
  have hpos : 0 < b.length := by
    cases b with
    | nil => exact absurd h1 (by decide)
    | cons _ _ => simp
  refine ⟨hpos, h1, fun c hc => ?_⟩
  obtain ⟨i, hi⟩ := List.getElem?_of_mem hc
  have hil := (List.getElem?_eq_some_iff.1 hi).1
  have hp : pk b i = c := by simp [pk, hi]
  by_cases h0 : i = 0
  · subst h0; rw [hp] at h1; left; simp [aln, h1]
  · have := wl_chars (fun k => pk b k) (b.length + 1) 1 b.length (Prod.ext h3 h2) i (by omega) hil
    rw [hp] at this; exact this

/-- A name: letters and digits, a letter first. -/
structure Alnum (s : ByteArray) : Prop where
  pos : 0 < s.data.toList.length
  fst : isLet (pk s.data.toList 0) = true
  all : ∀ c, c ∈ s.data.toList → aln c = true

theorem isCto45 {c : UInt8} (h : isC 45 c = true) : c = 45 := by
  unfold isC at h
  rw [decide_eq_true_eq] at h
  apply UInt8.toNat_inj.1
  rw [show (45 : UInt8).toNat = 45 from rfl]
  omega
theorem alnum_of {s : ByteArray} (h1 : whl s.data.toList = true) (h2 : hy s = false) : Alnum s := by
  obtain ⟨a, b, c⟩ := whl_chars h1
  refine ⟨a, b, fun x hx => ?_⟩
  rcases c x hx with h | h
  · exact h
  · have := isCto45 h
    subst this
    unfold hy at h2
    rw [List.contains_iff_mem.2 hx] at h2
    cases h2
theorem isFn_alnum {s : ByteArray} (h : isFn s = true) : Alnum s := by
  unfold isFn lowr at h
  simp only [Bool.and_eq_true, Bool.not_eq_true'] at h
  exact alnum_of h.2.1.1 h.2.2
theorem isMe_alnum {s : ByteArray} (h : isMe s = true) : Alnum s := by
  unfold isMe uppr at h
  simp only [Bool.and_eq_true, Bool.not_eq_true'] at h
  exact alnum_of h.1.1 h.2

theorem each_u8 {p : UInt8 → Prop} (h : ∀ n : _root_.Fin 256, p (UInt8.ofNat n.val)) (c : UInt8) : p c := by
  have := h ⟨c.toNat, c.toNat_lt⟩
  simpa using this

theorem aln_ne {c : UInt8} (h : aln c = true) : c ≠ 9 ∧ c ≠ 10 ∧ c ≠ 32 ∧ c ≠ 40 ∧ c ≠ 46 ∧ c ≠ 125 := by
  revert h
  exact each_u8 (p := fun c => aln c = true → c ≠ 9 ∧ c ≠ 10 ∧ c ≠ 32 ∧ c ≠ 40 ∧ c ≠ 46 ∧ c ≠ 125) (by decide +kernel) c
theorem let_ne {c : UInt8} (h : isLet c = true) : aln c = true := by simp [aln, h]

/-! ### What is told of a statement that is shaped -/
structure OkS (B : List Stmt → Bool) (s : Stmt) : Prop where
  nm : Alnum s.name
  args : ∀ a, a ∈ s.args → okArg a = true
  cases : (s.op = 2 ∧ s.args = [] ∧ s.thn = [] ∧ s.els = [] ∧ isFn s.name = true) ∨ (s.op = 1 ∧ s.thn = [] ∧ s.els = []) ∨ (s.op = 4 ∧ s.els = [] ∧ B s.thn = true) ∨ (s.op = 3 ∧ B s.thn = true ∧ B s.els = true)

theorem okS_of {B : List Stmt → Bool} {s : Stmt} (h : okS B s = true) : OkS B s := by
  unfold okS at h
  by_cases k2 : s.op = 2
  · rw [if_pos (by simpa using k2)] at h
    simp only [Bool.and_eq_true, decide_eq_true_eq] at h
    obtain ⟨hn, h⟩ := h
    have ha : s.args = [] := List.length_eq_zero_iff.1 (by omega)
    exact ⟨isFn_alnum hn, (by rw [ha]; intro a h; cases h), .inl ⟨k2, ha, List.length_eq_zero_iff.1 (by omega), List.length_eq_zero_iff.1 (by omega), hn⟩⟩
  · rw [if_neg (by simpa using k2)] at h
    by_cases hm : (!isMe s.name || (decide (4096 < s.args.length) || s.args.any fun a => !okArg a)) = true
    · rw [if_pos hm] at h; cases h
    · rw [if_neg hm] at h
      simp only [Bool.or_eq_true, Bool.not_eq_true', not_or, List.any_eq_true, not_exists, not_and, Bool.not_eq_false] at hm
      refine ⟨isMe_alnum hm.1, hm.2.2, ?_⟩
      by_cases k1 : s.op = 1
      · rw [if_pos (by simpa using k1)] at h
        simp only [decide_eq_true_eq] at h
        exact .inr (.inl ⟨k1, List.length_eq_zero_iff.1 (by omega), List.length_eq_zero_iff.1 (by omega)⟩)
      · rw [if_neg (by simpa using k1)] at h
        by_cases k4 : s.op = 4
        · rw [if_pos (by simpa using k4)] at h
          simp only [Bool.and_eq_true, decide_eq_true_eq] at h
          exact .inr (.inr (.inl ⟨k4, List.length_eq_zero_iff.1 h.1, h.2⟩))
        · rw [if_neg (by simpa using k4)] at h
          simp only [Bool.and_eq_true, decide_eq_true_eq] at h
          exact .inr (.inr (.inr ⟨h.1, h.2.1, h.2.2⟩))
end Go.Abs.Fr

namespace Go.Abs.Fr
open Go Go.Abs Go.Proofs
set_option linter.unusedSimpArgs false
set_option maxRecDepth 100000

/-- How many lines end in a text. -/
def nl (l : List UInt8) : Nat := l.countP (isC 10)
theorem nl_append (a b : List UInt8) : nl (a ++ b) = nl a + nl b := List.countP_append ..
theorem nl_nil : nl [] = 0 := rfl
theorem nl_free {l : List UInt8} (h : ∀ c, c ∈ l → c ≠ 10) : nl l = 0 := by
  refine List.countP_eq_zero.2 fun c hc => ?_
  have := h c hc
  intro h2
  unfold isC at h2
  rw [decide_eq_true_eq] at h2
  refine this (UInt8.toNat_inj.1 ?_)
  rw [show (10 : UInt8).toNat = 10 from rfl]
  omega

theorem decDigits_chars : ∀ (n : Nat) (c : UInt8), c ∈ Lib.decDigits n → isDig c = true := by
  intro n
  induction n using Nat.strongRecOn with
  | _ n ih =>
    intro c hc
    by_cases h : n < 10
    · rw [Lib.decDigits_one h] at hc
      rw [List.mem_singleton.1 hc]
      exact (show ∀ n : _root_.Fin 10, isDig (UInt8.ofNat (48 + n.val)) = true by decide +kernel) ⟨n, h⟩
    · rw [Lib.decDigits, dif_neg h] at hc
      rcases List.mem_append.1 hc with hc | hc
      · exact ih (n / 10) (by omega) c hc
      · rw [List.mem_singleton.1 hc]
        exact (show ∀ n : _root_.Fin 10, isDig (UInt8.ofNat (48 + n.val)) = true by decide +kernel) ⟨n % 10, Nat.mod_lt _ (by decide)⟩
theorem itoa_chars {n : Int} {c : UInt8} (h : c ∈ Lib.itoa n) : c = 45 ∨ isDig c = true := by
  unfold Lib.itoa at h
  split at h
  · rcases List.mem_cons.1 h with h | h
    · exact .inl h
    · exact .inr (decDigits_chars _ _ h)
  · exact .inr (decDigits_chars _ _ (by simpa using h))
theorem dig_ne {c : UInt8} (h : isDig c = true) : c ≠ 10 ∧ c ≠ 34 ∧ c ≠ 44 ∧ c ≠ 41 ∧ c ≠ 45 := by
  revert h
  exact each_u8 (p := fun c => isDig c = true → c ≠ 10 ∧ c ≠ 34 ∧ c ≠ 44 ∧ c ≠ 41 ∧ c ≠ 45) (by decide +kernel) c
theorem qc_free (c : UInt8) : ∀ x, x ∈ qc c → x ≠ 10 := each_u8 (p := fun c => ∀ x, x ∈ qc c → x ≠ 10) (by decide +kernel) c
theorem quo_free (l : List UInt8) : ∀ x, x ∈ quo l → x ≠ 10 := by
  intro x hx
  unfold quo at hx
  rcases List.mem_cons.1 hx with rfl | hx
  · decide
  · rcases List.mem_append.1 hx with hx | hx
    · obtain ⟨c, _, hc⟩ := List.mem_flatMap.1 hx
      exact qc_free c x hc
    · rw [List.mem_singleton.1 hx]; decide
theorem argt_free (a : Arg) : ∀ x, x ∈ argt a → x ≠ 10 := by
  intro x hx
  unfold argt at hx
  split at hx
  · exact quo_free _ x hx
  · rcases itoa_chars hx with rfl | h
    · decide
    · exact (dig_ne h).1
theorem joinTail_free (l : List Arg) : ∀ x, x ∈ Lib.joinTail [44, 32] (l.map argt) → x ≠ 10 := by
  induction l with
  | nil => intro x hx; simp [Lib.joinTail] at hx
  | cons a l ih =>
    intro x hx
    simp only [Lib.joinTail, List.map_cons, List.flatten_cons, List.mem_append] at hx
    rcases hx with (hx | hx) | hx
    · simp only [List.mem_cons, List.not_mem_nil, or_false] at hx
      rcases hx with rfl | rfl <;> decide
    · exact argt_free a x hx
    · exact ih x (by simpa [Lib.joinTail] using hx)
theorem argsT_free (l : List Arg) : ∀ x, x ∈ argsT l → x ≠ 10 := by
  cases l with
  | nil => intro x hx; simp [argsT, Lib.join_nil] at hx
  | cons a l =>
    intro x hx
    simp only [argsT, List.map_cons, Lib.join_cons, List.mem_append] at hx
    rcases hx with hx | hx
    · exact argt_free a x hx
    · exact joinTail_free l x hx
theorem name_free {s : ByteArray} (h : Alnum s) : ∀ x, x ∈ s.data.toList → x ≠ 10 := fun x hx => (aln_ne (h.all x hx)).2.1

theorem head_free {B : List Stmt → Bool} {s : Stmt} (h : OkS B s) : nl (headT s).flatten = 0 := by
  refine nl_free fun x hx => ?_
  have hn := name_free h.nm
  have ha := argsT_free s.args
  have hcall : ∀ x, x ∈ callT s → x ≠ 10 := by
    intro x hx
    simp only [callT, List.mem_cons, List.mem_append, List.not_mem_nil, or_false] at hx
    rcases hx with rfl | rfl | hx | rfl | hx | rfl
    · decide
    · decide
    · exact hn x hx
    · decide
    · exact ha x hx
    · decide
  unfold headT at hx
  repeat' split at hx
  all_goals simp only [List.flatten_cons, List.flatten_nil, List.mem_append, List.mem_cons, List.not_mem_nil, or_false] at hx
  · exact hcall x hx
  · rcases hx with hx | rfl | rfl | rfl
    · exact hn x hx
    all_goals decide
  · rcases hx with (rfl | rfl | rfl | rfl) | hx | (rfl | rfl)
    any_goals decide
    exact hcall x hx
  · rcases hx with (rfl | rfl | rfl) | hx | (rfl | rfl)
    any_goals decide
    exact hcall x hx

theorem nl_line (t : Nat) (l : List (List UInt8)) : nl (lineT t l) = nl l.flatten + 1 := by
  unfold lineT
  rw [nl_append, nl_append, nl_free (l := List.replicate t 9) (fun c hc => by rw [(List.mem_replicate.1 hc).2]; decide)]
  rw [show nl [10] = 1 from rfl]; omega

theorem nl_stmt {B : List Stmt → Bool} {s : Stmt} (h : OkS B s) (ih : ∀ l, B l = true → ∀ t, szL l ≤ nl (stmtsT t l) ∧ nl (stmtsT t l) ≤ 3 * szL l) (t : Nat) : szS s ≤ nl (stmtT t s) ∧ nl (stmtT t s) ≤ 3 * szS s := by
  have hf := head_free h
  have hz := szS_eq s
  rw [stmtT_eq, nl_append, nl_line, hf]
  have e1 : nl (lineT t [[125]]) = 1 := by rw [nl_line]; rfl
  have e2 : nl (lineT t [[125, 32, 101, 108, 115, 101, 32, 123]]) = 1 := by rw [nl_line]; rfl
  rcases h.cases with ⟨h1, h2, h3, h4, _⟩ | ⟨h1, h2, h3⟩ | ⟨h1, h2, h3⟩ | ⟨h1, h2, h3⟩
  · rw [if_pos (by simp [h1]), nl_nil, hz, h3, h4]; simp [szL]
  · rw [if_pos (by simp [h1]), nl_nil, hz, h2, h3]; simp [szL]
  · have := ih s.thn h3 (t + 1)
    rw [if_neg (by simp [h1]), nl_append, nl_append, h2, if_pos List.length_nil, nl_nil, e1, hz, h2]
    simp only [szL]; omega
  · have i1 := ih s.thn h2 (t + 1)
    have i2 := ih s.els h3 (t + 1)
    rw [if_neg (by simp [h1]), nl_append, nl_append, e1, hz]
    split
    · rename_i h0
      have : s.els = [] := List.length_eq_zero_iff.1 h0
      rw [nl_nil, this]; simp only [szL]; omega
    · rename_i h0
      have := szL_len s.els
      rw [nl_append, e2]; omega

theorem nl_list (P : Stmt → Prop) (hP : ∀ s, P s → ∀ t, szS s ≤ nl (stmtT t s) ∧ nl (stmtT t s) ≤ 3 * szS s) : ∀ (l : List Stmt), (∀ s, s ∈ l → P s) → ∀ t, szL l ≤ nl (stmtsT t l) ∧ nl (stmtsT t l) ≤ 3 * szL l
  | [], _, t => by simp [szL, stmtsT, nl]
  | s :: l, h, t => by
    have h1 := hP s (h s (List.mem_cons_self ..)) t
    have h2 := nl_list P hP l (fun x hx => h x (List.mem_cons_of_mem _ hx)) t
    simp only [szL, stmtsT, nl_append]; omega

theorem nl_body : ∀ (r : Nat) (l : List Stmt), okB r l = true → ∀ t, szL l ≤ nl (stmtsT t l) ∧ nl (stmtsT t l) ≤ 3 * szL l
  | 0, l, h, t => by
    obtain rfl : l = [] := List.length_eq_zero_iff.1 (by simpa [okB] using h)
    simp [szL, stmtsT, nl]
  | r + 1, l, h, t => nl_list (fun s => OkS (okB r) s) (fun s hs t => nl_stmt hs (fun l hl t => nl_body r l hl t) t) l (fun s hs => okS_of (okB_mem h hs)) t

theorem okF_of {l : List Fun} (h : okFs l = true) {f : Fun} (hf : f ∈ l) : isFn f.name = true ∧ okB 40 f.body = true := by
  simp only [okFs, Bool.and_eq_true, Bool.not_eq_true', List.any_eq_false, Bool.not_eq_true'] at h
  have := h.2 f hf
  simp only [okF, Bool.not_eq_false, Bool.and_eq_true] at this
  exact this

theorem nl_fun {f : Fun} (h1 : isFn f.name = true) (h2 : okB 40 f.body = true) : nl (funT f) = 2 + nl (stmtsT 1 f.body) := by
  unfold funT
  rw [nl_append, nl_append, nl_line, nl_line, nl_free (l := List.flatten [[102, 117, 110, 99, 32], f.name.data.toList, [40, 99, 32, 42, 67, 41, 32, 123]]) ?_, nl_free (l := List.flatten [[125]]) (by decide)]
  · omega
  · intro x hx
    simp only [List.flatten_cons, List.flatten_nil, List.mem_append, List.append_nil] at hx
    rcases hx with hx | hx | hx
    · revert hx; revert x; decide
    · exact name_free (isFn_alnum h1) x hx
    · revert hx; revert x; decide

theorem nl_funs : ∀ (l : List Fun), (∀ f, f ∈ l → isFn f.name = true ∧ okB 40 f.body = true) → szF l + l.length ≤ nl (funsT l) ∧ nl (funsT l) ≤ 3 * szF l
  | [], _ => by simp [funsT, nl, szF]
  | f :: l, h => by
    obtain ⟨h1, h2⟩ := h f (List.mem_cons_self ..)
    have ih := nl_funs l fun x hx => h x (List.mem_cons_of_mem _ hx)
    have hb := nl_body 40 f.body h2 1
    have hf := nl_fun h1 h2
    have e : funsT (f :: l) = funT f ++ funsT l := rfl
    rw [e, nl_append, hf]
    simp only [szF, List.length_cons]; omega

theorem okFs_append {a b : List Fun} (ha : okFs a = true) (hb : okFs b = true) (hl : a.length + b.length ≤ 4096) : okFs (a ++ b) = true := by
  simp only [okFs, Bool.and_eq_true, decide_eq_true_eq, Bool.not_eq_true', List.any_append, Bool.or_eq_false_iff, List.length_append] at ha hb ⊢
  exact ⟨hl, ha.2, hb.2⟩
theorem textT_append {a b : List Fun} (ha : okFs a = true) (hb : okFs b = true) (hl : a.length + b.length ≤ 4096) : textT (a ++ b) = textT a ++ textT b := by
  simp only [textT, ha, hb, okFs_append ha hb hl, if_true, funsT, List.flatMap_append]
end Go.Abs.Fr

namespace Go.Abs.Fr
open Go Go.Abs Go.Proofs
set_option linter.unusedSimpArgs false
set_option maxRecDepth 100000

/-- Pair by pair. -/
def all2 {α : Type} (p : α → α → Bool) : List α → List α → Bool
  | [], [] => true
  | a :: l, b :: r => p a b && all2 p l r
  | _, _ => false
theorem all2_len {α : Type} {p : α → α → Bool} : ∀ {l r : List α}, l.length ≠ r.length → all2 p l r = false
  | [], [], h => by simp at h
  | [], _ :: _, _ => rfl
  | _ :: _, [], _ => rfl
  | a :: l, b :: r, h => by
    simp only [List.length_cons, ne_eq, Nat.add_right_cancel_iff] at h
    simp only [all2, all2_len h, Bool.and_false]

def eq1 (a b : Arg) : Bool := decide (a.text = b.text) && (decide (a.n = b.n) && (decide (a.s = b.s) && true))
mutual
def eqS : Stmt → Stmt → Bool
  | .mk o n a t e, .mk o' n' a' t' e' => decide (o = o') && (decide (n = n') && (all2 eq1 a a' && (eqL t t' && eqL e e')))
def eqL : List Stmt → List Stmt → Bool
  | [], [] => true
  | s :: l, s' :: l' => eqS s s' && eqL l l'
  | _, _ => false
end
theorem eqL_all2 : ∀ (l r : List Stmt), eqL l r = all2 eqS l r
  | [], [] => by simp only [eqL, all2]
  | [], _ :: _ => by simp only [eqL, all2]
  | _ :: _, [] => by simp only [eqL, all2]
  | s :: l, s' :: r => by simp only [eqL, all2, eqL_all2 l r]
theorem eqS_eq (s s' : Stmt) : eqS s s' = (decide (s.op = s'.op) && (decide (s.name = s'.name) && (all2 eq1 s.args s'.args && (all2 eqS s.thn s'.thn && all2 eqS s.els s'.els)))) := by
  cases s; cases s'; simp only [eqS, eqL_all2]; rfl
def eqF (f g : Fun) : Bool := decide (f.name = g.name) && all2 eqS f.body g.body

theorem args_ev (l r : List Arg) (hl : l.length < 2 ^ 60) (hr : r.length < 2 ^ 60) (h : List AObj) : EvR E0 50 [argsv l, argsv r] h (boolv (all2 eq1 l r)) := by
  refine ev_of (fn := Tryd.f50) (hs := []) Tryd.func50 c50 (by simp) fun hcl => ?_
  generalize hR : all2 eq1 l r = R
  have d0 : decide ((l.length : Int) = (r.length : Int)) = decide (l.length = r.length) := by rw [decide_eq_decide]; omega
  cases dl : decide (l.length = r.length)
  · simp only [ac50, List.length_map, d0, dl, ne_eq, not_false_eq_true, Option.map_some, Option.map_none, List.map_cons, List.map_nil, Bool.not_true, Bool.not_false, decide_true, decide_false, List.getElem?_cons_zero, List.getElem?_cons_succ, ↓aw1, ↓aw2, ↓aw17, aw3, aw4, aw5, aw6, aw7, aw8, aw9, aw10, aw11, aw12, aw13, aw14, aw15, aw16, aw19, Nat.reduceLeDiff, if_true, if_false, Nat.reduceEqDiff, Nat.reduceAdd, beq_self_eq_true, beq_true, beq_false, Bool.false_eq_true]
    rw [decide_eq_false_iff_not] at dl
    rw [all2_len dl] at hR
    subst hR
    exact Fin.same0 hcl rfl ⟨rfl, rfl⟩
  · simp only [ac50, List.length_map, d0, dl, ne_eq, not_false_eq_true, Option.map_some, Option.map_none, List.map_cons, List.map_nil, Bool.not_true, Bool.not_false, decide_true, decide_false, List.getElem?_cons_zero, List.getElem?_cons_succ, ↓aw1, ↓aw2, ↓aw17, aw3, aw4, aw5, aw6, aw7, aw8, aw9, aw10, aw11, aw12, aw13, aw14, aw15, aw16, aw19, Nat.reduceLeDiff, if_true, if_false, Nat.reduceEqDiff, Nat.reduceAdd, beq_self_eq_true, beq_true, beq_false, Bool.false_eq_true]
    rw [decide_eq_true_eq] at dl
    refine LoopF.by (α := Nat) (fun i => ⟨[(0, argsv l), (1, argsv r), (12, i64 l.length), (13, i64 i)], h⟩) (fun i => l.length - i)
      (fun i => i ≤ l.length ∧ all2 eq1 (l.drop i) (r.drop i) = R) 0 ⟨by omega, by simpa using hR⟩ (weak_of rfl (by simp [look])) ?_
    rintro i ⟨h1, h2⟩
    by_cases hi : i < l.length
    · obtain ⟨a, ha⟩ : ∃ a, l[i]? = some a := ⟨_, List.getElem?_eq_getElem hi⟩
      obtain ⟨b, hb⟩ : ∃ b, r[i]? = some b := ⟨_, List.getElem?_eq_getElem (by omega)⟩
      have e1 : decide ((i : Int) < (l.length : Int)) = true := by rw [decide_eq_true_eq]; omega
      have w3 : IntKind.i64.wrap ((i : Int) + 1) = ((i + 1 : Nat) : Int) := by rw [wrap_i64] <;> omega
      have hga := map_get argv l i a ha
      have hgb := map_get argv r i b hb
      have x0 : (true ^^ true) = false := rfl
      have x1 : (true ^^ false) = true := rfl
      rw [drop_get ha, drop_get hb] at h2
      simp only [all2] at h2
      simp only [e1, List.length_map, ne_eq, not_false_eq_true, Option.map_some, Option.map_none, List.map_cons, List.map_nil, Bool.not_true, Bool.not_false, decide_true, decide_false, List.getElem?_cons_zero, List.getElem?_cons_succ, ↓aw1, ↓aw2, ↓aw17, aw3, aw4, aw5, aw6, aw7, aw8, aw9, aw10, aw11, aw12, aw13, aw14, aw15, aw16, aw19, Nat.reduceLeDiff, if_true, if_false, Nat.reduceEqDiff, Nat.reduceAdd, beq_self_eq_true, beq_true, beq_false, Bool.false_eq_true]
      refine Need.mk ⟨by omega, by first | omega | (simp; omega)⟩ (Elem.recs hga ⟨rfl, rfl⟩ ?_)
      simp only [argv, List.length_map, List.take_succ_cons, List.take_zero, List.drop_zero, List.drop_succ_cons, ne_eq, not_false_eq_true, Option.map_some, Option.map_none, List.map_cons, List.map_nil, Bool.not_true, Bool.not_false, decide_true, decide_false, List.getElem?_cons_zero, List.getElem?_cons_succ, ↓aw1, ↓aw2, ↓aw17, aw3, aw4, aw5, aw6, aw7, aw8, aw9, aw10, aw11, aw12, aw13, aw14, aw15, aw16, aw19, Nat.reduceLeDiff, if_true, if_false, Nat.reduceEqDiff, Nat.reduceAdd, beq_self_eq_true, beq_true, beq_false, Bool.false_eq_true]
      refine Need.mk ⟨by omega, by first | omega | (simp; omega)⟩ (Elem.recs hgb ⟨rfl, rfl⟩ ?_)
      simp only [argv, List.length_map, List.take_succ_cons, List.take_zero, List.drop_zero, List.drop_succ_cons, ne_eq, not_false_eq_true, Option.map_some, Option.map_none, List.map_cons, List.map_nil, Bool.not_true, Bool.not_false, decide_true, decide_false, List.getElem?_cons_zero, List.getElem?_cons_succ, ↓aw1, ↓aw2, ↓aw17, aw3, aw4, aw5, aw6, aw7, aw8, aw9, aw10, aw11, aw12, aw13, aw14, aw15, aw16, aw19, Nat.reduceLeDiff, if_true, if_false, Nat.reduceEqDiff, Nat.reduceAdd, beq_self_eq_true, beq_true, beq_false, Bool.false_eq_true]
      cases he : eq1 a b
      · rw [he, Bool.false_and] at h2
        subst h2
        unfold eq1 at he
        simp only [he, x1, List.take_succ_cons, List.take_zero, List.drop_zero, List.drop_succ_cons, ne_eq, not_false_eq_true, Option.map_some, Option.map_none, List.map_cons, List.map_nil, Bool.not_true, Bool.not_false, decide_true, decide_false, List.getElem?_cons_zero, List.getElem?_cons_succ, ↓aw1, ↓aw2, ↓aw17, aw3, aw4, aw5, aw6, aw7, aw8, aw9, aw10, aw11, aw12, aw13, aw14, aw15, aw16, aw19, Nat.reduceLeDiff, if_true, if_false, Nat.reduceEqDiff, Nat.reduceAdd, beq_self_eq_true, beq_true, beq_false, Bool.false_eq_true]
        exact Fin.same0 hcl rfl ⟨rfl, rfl⟩
      · rw [he, Bool.true_and] at h2
        unfold eq1 at he
        simp only [he, x0, w3, List.take_succ_cons, List.take_zero, List.drop_zero, List.drop_succ_cons, ne_eq, not_false_eq_true, Option.map_some, Option.map_none, List.map_cons, List.map_nil, Bool.not_true, Bool.not_false, decide_true, decide_false, List.getElem?_cons_zero, List.getElem?_cons_succ, ↓aw1, ↓aw2, ↓aw17, aw3, aw4, aw5, aw6, aw7, aw8, aw9, aw10, aw11, aw12, aw13, aw14, aw15, aw16, aw19, Nat.reduceLeDiff, if_true, if_false, Nat.reduceEqDiff, Nat.reduceAdd, beq_self_eq_true, beq_true, beq_false, Bool.false_eq_true]
        exact ⟨i + 1, ⟨by omega, h2⟩, by omega, weak_of rfl (by simp [look])⟩
    · have e1 : decide ((i : Int) < (l.length : Int)) = false := by rw [decide_eq_false_iff_not]; omega
      rw [List.drop_eq_nil_of_le (by omega), List.drop_eq_nil_of_le (by omega)] at h2
      simp only [all2] at h2
      subst h2
      simp only [e1, List.length_map, ne_eq, not_false_eq_true, Option.map_some, Option.map_none, List.map_cons, List.map_nil, Bool.not_true, Bool.not_false, decide_true, decide_false, List.getElem?_cons_zero, List.getElem?_cons_succ, ↓aw1, ↓aw2, ↓aw17, aw3, aw4, aw5, aw6, aw7, aw8, aw9, aw10, aw11, aw12, aw13, aw14, aw15, aw16, aw19, Nat.reduceLeDiff, if_true, if_false, Nat.reduceEqDiff, Nat.reduceAdd, beq_self_eq_true, beq_true, beq_false, Bool.false_eq_true]
      exact Fin.same0 hcl rfl ⟨rfl, rfl⟩

theorem Fin.sameJ {h h' : List AObj} {J : List AObj} {v : AV} {Q : ARes → List AObj → Prop} {t} (hc : Closed h) (hu : AV.under h.length v = true) (hq : Q (.ret v) h) (he : h' = h ++ J) : Fin h' h.length v Q t := by
  subst he
  exact Fin.same hc hu hq
theorem asc3 (h J : List AObj) (a b : AObj) : h ++ J ++ [a] ++ [b] = h ++ (J ++ [a] ++ [b]) := by simp
theorem asc2 (h : List AObj) (a b : AObj) : h ++ [a] ++ [b] = h ++ [a, b] := by simp
theorem getK (h J : List AObj) (o o' : AObj) : (h ++ J ++ [o] ++ [o'])[(h ++ J).length]? = some o := by
  rw [List.append_assoc]; simp
theorem getK1 (h J : List AObj) (o o' : AObj) : (h ++ J ++ [o] ++ [o'])[(h ++ J ++ [o]).length]? = some o' := by simp
theorem setK1 (h J : List AObj) (o o' x : AObj) : (h ++ J ++ [o] ++ [o']).set (h ++ J ++ [o]).length x = h ++ J ++ [o] ++ [x] := by simp

/-- slices.EqualFunc at statements. -/
theorem stmts_equal (l r : List Stmt) (p : Stmt → Stmt → Bool) (h : List AObj) (hl : l.length < 2 ^ 60) (hr : r.length < 2 ^ 60) (f : FuncId)
    (hp : ∀ a b, a ∈ l → b ∈ r → ∀ h', EvR E0 f [stmtv a, stmtv b] h' (boolv (p a b))) : EvR E0 32 [bodyv l, bodyv r, .fn (.func f) [] []] h (boolv (all2 p l r)) := by
  refine ev_of (fn := Tryd.f32) (hs := []) Tryd.func32 c32 (by simp) fun hcl => ?_
  generalize hR : all2 p l r = R
  have d0 : decide ((l.length : Int) = (r.length : Int)) = decide (l.length = r.length) := by rw [decide_eq_decide]; omega
  cases dl : decide (l.length = r.length)
  · simp only [ac32, List.length_map, d0, dl, ne_eq, not_false_eq_true, Option.map_some, Option.map_none, List.map_cons, List.map_nil, Bool.not_true, Bool.not_false, decide_true, decide_false, List.getElem?_cons_zero, List.getElem?_cons_succ, ↓aw1, ↓aw2, ↓aw17, aw3, aw4, aw5, aw6, aw7, aw8, aw9, aw10, aw11, aw12, aw13, aw14, aw15, aw16, aw19, Nat.reduceLeDiff, if_true, if_false, Nat.reduceEqDiff, Nat.reduceAdd, beq_self_eq_true, beq_true, beq_false, Bool.false_eq_true]
    rw [decide_eq_false_iff_not] at dl
    rw [all2_len dl] at hR
    subst hR
    exact Fin.same0 hcl rfl ⟨rfl, rfl⟩
  · simp only [ac32, List.length_map, d0, dl, ne_eq, not_false_eq_true, Option.map_some, Option.map_none, List.map_cons, List.map_nil, Bool.not_true, Bool.not_false, decide_true, decide_false, List.getElem?_cons_zero, List.getElem?_cons_succ, ↓aw1, ↓aw2, ↓aw17, aw3, aw4, aw5, aw6, aw7, aw8, aw9, aw10, aw11, aw12, aw13, aw14, aw15, aw16, aw19, Nat.reduceLeDiff, if_true, if_false, Nat.reduceEqDiff, Nat.reduceAdd, beq_self_eq_true, beq_true, beq_false, Bool.false_eq_true]
    rw [decide_eq_true_eq] at dl
    refine LoopF.by (α := Nat × List AObj) (fun x => ⟨[(1, bodyv r), (2, .fn (.func f) [] []), (15, bodyv l), (16, i64 l.length), (17, i64 x.1)], h ++ x.2⟩) (fun x => l.length - x.1)
      (fun x => x.1 ≤ l.length ∧ all2 p (l.drop x.1) (r.drop x.1) = R) (0, []) ⟨by omega, by simpa using hR⟩ (weak_of (by simp) (by simp [look])) ?_
    rintro ⟨i, J⟩ ⟨h1, h2⟩
    simp only at h1 h2
    by_cases hi : i < l.length
    · obtain ⟨a, ha⟩ : ∃ a, l[i]? = some a := ⟨_, List.getElem?_eq_getElem hi⟩
      obtain ⟨b, hb⟩ : ∃ b, r[i]? = some b := ⟨_, List.getElem?_eq_getElem (by omega)⟩
      have e1 : decide ((i : Int) < (l.length : Int)) = true := by rw [decide_eq_true_eq]; omega
      have w3 : IntKind.i64.wrap ((i : Int) + 1) = ((i + 1 : Nat) : Int) := by rw [wrap_i64] <;> omega
      have hga := map_get stmtv l i a ha
      have hgb := map_get stmtv r i b hb
      have hpp := hp a b (List.mem_of_getElem? ha) (List.mem_of_getElem? hb)
      simp only [stmtv_eq] at hpp
      rw [drop_get ha, drop_get hb] at h2
      simp only [all2] at h2
      simp only [e1, List.length_map, ne_eq, not_false_eq_true, Option.map_some, Option.map_none, List.map_cons, List.map_nil, Bool.not_true, Bool.not_false, decide_true, decide_false, List.getElem?_cons_zero, List.getElem?_cons_succ, ↓aw1, ↓aw2, ↓aw17, aw3, aw4, aw5, aw6, aw7, aw8, aw9, aw10, aw11, aw12, aw13, aw14, aw15, aw16, aw19, Nat.reduceLeDiff, if_true, if_false, Nat.reduceEqDiff, Nat.reduceAdd, beq_self_eq_true, beq_true, beq_false, Bool.false_eq_true]
      refine Need.mk ⟨by omega, by first | omega | (simp; omega)⟩ (Elem.recs hga (by rw [stmtv_eq]; exact ⟨rfl, rfl⟩) ?_)
      simp only [stmtv_eq, getJ, setJ, List.length_map, List.take_succ_cons, List.take_zero, List.drop_zero, List.drop_succ_cons, ne_eq, not_false_eq_true, Option.map_some, Option.map_none, List.map_cons, List.map_nil, Bool.not_true, Bool.not_false, decide_true, decide_false, List.getElem?_cons_zero, List.getElem?_cons_succ, ↓aw1, ↓aw2, ↓aw17, aw3, aw4, aw5, aw6, aw7, aw8, aw9, aw10, aw11, aw12, aw13, aw14, aw15, aw16, aw19, Nat.reduceLeDiff, if_true, if_false, Nat.reduceEqDiff, Nat.reduceAdd, beq_self_eq_true, beq_true, beq_false, Bool.false_eq_true]
      refine Need.mk ⟨by omega, by first | omega | (simp; omega)⟩ (Elem.recs hgb (by rw [stmtv_eq]; exact ⟨rfl, rfl⟩) ?_)
      simp only [stmtv_eq, getK, getK1, setK1, List.length_map, List.take_succ_cons, List.take_zero, List.drop_zero, List.drop_succ_cons, ne_eq, not_false_eq_true, Option.map_some, Option.map_none, List.map_cons, List.map_nil, Bool.not_true, Bool.not_false, decide_true, decide_false, List.getElem?_cons_zero, List.getElem?_cons_succ, ↓aw1, ↓aw2, ↓aw17, aw3, aw4, aw5, aw6, aw7, aw8, aw9, aw10, aw11, aw12, aw13, aw14, aw15, aw16, aw19, Nat.reduceLeDiff, if_true, if_false, Nat.reduceEqDiff, Nat.reduceAdd, beq_self_eq_true, beq_true, beq_false, Bool.false_eq_true]
      refine EvF.ret (hpp _) ?_
      cases hx : p a b
      · rw [hx, Bool.false_and] at h2
        subst h2
        simp only [ne_eq, not_false_eq_true, Option.map_some, Option.map_none, List.map_cons, List.map_nil, Bool.not_true, Bool.not_false, decide_true, decide_false, List.getElem?_cons_zero, List.getElem?_cons_succ, ↓aw1, ↓aw2, ↓aw17, aw3, aw4, aw5, aw6, aw7, aw8, aw9, aw10, aw11, aw12, aw13, aw14, aw15, aw16, aw19, Nat.reduceLeDiff, if_true, if_false, Nat.reduceEqDiff, Nat.reduceAdd, beq_self_eq_true, beq_true, beq_false, Bool.false_eq_true]
        exact Fin.sameJ hcl rfl ⟨rfl, rfl⟩ (asc3 ..)
      · rw [hx, Bool.true_and] at h2
        simp only [w3, ne_eq, not_false_eq_true, Option.map_some, Option.map_none, List.map_cons, List.map_nil, Bool.not_true, Bool.not_false, decide_true, decide_false, List.getElem?_cons_zero, List.getElem?_cons_succ, ↓aw1, ↓aw2, ↓aw17, aw3, aw4, aw5, aw6, aw7, aw8, aw9, aw10, aw11, aw12, aw13, aw14, aw15, aw16, aw19, Nat.reduceLeDiff, if_true, if_false, Nat.reduceEqDiff, Nat.reduceAdd, beq_self_eq_true, beq_true, beq_false, Bool.false_eq_true]
        exact ⟨(i + 1, J ++ [_] ++ [_]), ⟨by simp only; omega, h2⟩, by simp only; omega, weak_of (asc3 ..).symm (by simp [look])⟩
    · have e1 : decide ((i : Int) < (l.length : Int)) = false := by rw [decide_eq_false_iff_not]; omega
      rw [List.drop_eq_nil_of_le (by omega), List.drop_eq_nil_of_le (by omega)] at h2
      simp only [all2] at h2
      subst h2
      simp only [e1, List.length_map, ne_eq, not_false_eq_true, Option.map_some, Option.map_none, List.map_cons, List.map_nil, Bool.not_true, Bool.not_false, decide_true, decide_false, List.getElem?_cons_zero, List.getElem?_cons_succ, ↓aw1, ↓aw2, ↓aw17, aw3, aw4, aw5, aw6, aw7, aw8, aw9, aw10, aw11, aw12, aw13, aw14, aw15, aw16, aw19, Nat.reduceLeDiff, if_true, if_false, Nat.reduceEqDiff, Nat.reduceAdd, beq_self_eq_true, beq_true, beq_false, Bool.false_eq_true]
      exact Fin.same hcl rfl ⟨rfl, rfl⟩

/-- slices.EqualFunc at functions. -/
theorem funs_equal (l r : List Fun) (p : Fun → Fun → Bool) (h : List AObj) (hl : l.length < 2 ^ 60) (hr : r.length < 2 ^ 60) (f : FuncId)
    (hp : ∀ a b, a ∈ l → b ∈ r → ∀ h', EvR E0 f [funv a, funv b] h' (boolv (p a b))) : EvR E0 30 [funsv l, funsv r, .fn (.func f) [] []] h (boolv (all2 p l r)) := by
  refine ev_of (fn := Tryd.f30) (hs := []) Tryd.func30 c30 (by simp) fun hcl => ?_
  generalize hR : all2 p l r = R
  have d0 : decide ((l.length : Int) = (r.length : Int)) = decide (l.length = r.length) := by rw [decide_eq_decide]; omega
  cases dl : decide (l.length = r.length)
  · simp only [ac30, List.length_map, d0, dl, ne_eq, not_false_eq_true, Option.map_some, Option.map_none, List.map_cons, List.map_nil, Bool.not_true, Bool.not_false, decide_true, decide_false, List.getElem?_cons_zero, List.getElem?_cons_succ, ↓aw1, ↓aw2, ↓aw17, aw3, aw4, aw5, aw6, aw7, aw8, aw9, aw10, aw11, aw12, aw13, aw14, aw15, aw16, aw19, Nat.reduceLeDiff, if_true, if_false, Nat.reduceEqDiff, Nat.reduceAdd, beq_self_eq_true, beq_true, beq_false, Bool.false_eq_true]
    rw [decide_eq_false_iff_not] at dl
    rw [all2_len dl] at hR
    subst hR
    exact Fin.same0 hcl rfl ⟨rfl, rfl⟩
  · simp only [ac30, List.length_map, d0, dl, ne_eq, not_false_eq_true, Option.map_some, Option.map_none, List.map_cons, List.map_nil, Bool.not_true, Bool.not_false, decide_true, decide_false, List.getElem?_cons_zero, List.getElem?_cons_succ, ↓aw1, ↓aw2, ↓aw17, aw3, aw4, aw5, aw6, aw7, aw8, aw9, aw10, aw11, aw12, aw13, aw14, aw15, aw16, aw19, Nat.reduceLeDiff, if_true, if_false, Nat.reduceEqDiff, Nat.reduceAdd, beq_self_eq_true, beq_true, beq_false, Bool.false_eq_true]
    rw [decide_eq_true_eq] at dl
    refine LoopF.by (α := Nat × List AObj) (fun x => ⟨[(1, funsv r), (2, .fn (.func f) [] []), (15, funsv l), (16, i64 l.length), (17, i64 x.1)], h ++ x.2⟩) (fun x => l.length - x.1)
      (fun x => x.1 ≤ l.length ∧ all2 p (l.drop x.1) (r.drop x.1) = R) (0, []) ⟨by omega, by simpa using hR⟩ (weak_of (by simp) (by simp [look])) ?_
    rintro ⟨i, J⟩ ⟨h1, h2⟩
    simp only at h1 h2
    by_cases hi : i < l.length
    · obtain ⟨a, ha⟩ : ∃ a, l[i]? = some a := ⟨_, List.getElem?_eq_getElem hi⟩
      obtain ⟨b, hb⟩ : ∃ b, r[i]? = some b := ⟨_, List.getElem?_eq_getElem (by omega)⟩
      have e1 : decide ((i : Int) < (l.length : Int)) = true := by rw [decide_eq_true_eq]; omega
      have w3 : IntKind.i64.wrap ((i : Int) + 1) = ((i + 1 : Nat) : Int) := by rw [wrap_i64] <;> omega
      have hga := map_get funv l i a ha
      have hgb := map_get funv r i b hb
      have hpp := hp a b (List.mem_of_getElem? ha) (List.mem_of_getElem? hb)
      simp only [funv] at hpp
      rw [drop_get ha, drop_get hb] at h2
      simp only [all2] at h2
      simp only [e1, List.length_map, ne_eq, not_false_eq_true, Option.map_some, Option.map_none, List.map_cons, List.map_nil, Bool.not_true, Bool.not_false, decide_true, decide_false, List.getElem?_cons_zero, List.getElem?_cons_succ, ↓aw1, ↓aw2, ↓aw17, aw3, aw4, aw5, aw6, aw7, aw8, aw9, aw10, aw11, aw12, aw13, aw14, aw15, aw16, aw19, Nat.reduceLeDiff, if_true, if_false, Nat.reduceEqDiff, Nat.reduceAdd, beq_self_eq_true, beq_true, beq_false, Bool.false_eq_true]
      refine Need.mk ⟨by omega, by first | omega | (simp; omega)⟩ (Elem.recs hga (by simp only [funv]; exact ⟨rfl, rfl⟩) ?_)
      simp only [funv, getJ, setJ, List.length_map, List.take_succ_cons, List.take_zero, List.drop_zero, List.drop_succ_cons, ne_eq, not_false_eq_true, Option.map_some, Option.map_none, List.map_cons, List.map_nil, Bool.not_true, Bool.not_false, decide_true, decide_false, List.getElem?_cons_zero, List.getElem?_cons_succ, ↓aw1, ↓aw2, ↓aw17, aw3, aw4, aw5, aw6, aw7, aw8, aw9, aw10, aw11, aw12, aw13, aw14, aw15, aw16, aw19, Nat.reduceLeDiff, if_true, if_false, Nat.reduceEqDiff, Nat.reduceAdd, beq_self_eq_true, beq_true, beq_false, Bool.false_eq_true]
      refine Need.mk ⟨by omega, by first | omega | (simp; omega)⟩ (Elem.recs hgb (by simp only [funv]; exact ⟨rfl, rfl⟩) ?_)
      simp only [funv, getK, getK1, setK1, List.length_map, List.take_succ_cons, List.take_zero, List.drop_zero, List.drop_succ_cons, ne_eq, not_false_eq_true, Option.map_some, Option.map_none, List.map_cons, List.map_nil, Bool.not_true, Bool.not_false, decide_true, decide_false, List.getElem?_cons_zero, List.getElem?_cons_succ, ↓aw1, ↓aw2, ↓aw17, aw3, aw4, aw5, aw6, aw7, aw8, aw9, aw10, aw11, aw12, aw13, aw14, aw15, aw16, aw19, Nat.reduceLeDiff, if_true, if_false, Nat.reduceEqDiff, Nat.reduceAdd, beq_self_eq_true, beq_true, beq_false, Bool.false_eq_true]
      refine EvF.ret (hpp _) ?_
      cases hx : p a b
      · rw [hx, Bool.false_and] at h2
        subst h2
        simp only [ne_eq, not_false_eq_true, Option.map_some, Option.map_none, List.map_cons, List.map_nil, Bool.not_true, Bool.not_false, decide_true, decide_false, List.getElem?_cons_zero, List.getElem?_cons_succ, ↓aw1, ↓aw2, ↓aw17, aw3, aw4, aw5, aw6, aw7, aw8, aw9, aw10, aw11, aw12, aw13, aw14, aw15, aw16, aw19, Nat.reduceLeDiff, if_true, if_false, Nat.reduceEqDiff, Nat.reduceAdd, beq_self_eq_true, beq_true, beq_false, Bool.false_eq_true]
        exact Fin.sameJ hcl rfl ⟨rfl, rfl⟩ (asc3 ..)
      · rw [hx, Bool.true_and] at h2
        simp only [w3, ne_eq, not_false_eq_true, Option.map_some, Option.map_none, List.map_cons, List.map_nil, Bool.not_true, Bool.not_false, decide_true, decide_false, List.getElem?_cons_zero, List.getElem?_cons_succ, ↓aw1, ↓aw2, ↓aw17, aw3, aw4, aw5, aw6, aw7, aw8, aw9, aw10, aw11, aw12, aw13, aw14, aw15, aw16, aw19, Nat.reduceLeDiff, if_true, if_false, Nat.reduceEqDiff, Nat.reduceAdd, beq_self_eq_true, beq_true, beq_false, Bool.false_eq_true]
        exact ⟨(i + 1, J ++ [_] ++ [_]), ⟨by simp only; omega, h2⟩, by simp only; omega, weak_of (asc3 ..).symm (by simp [look])⟩
    · have e1 : decide ((i : Int) < (l.length : Int)) = false := by rw [decide_eq_false_iff_not]; omega
      rw [List.drop_eq_nil_of_le (by omega), List.drop_eq_nil_of_le (by omega)] at h2
      simp only [all2] at h2
      subst h2
      simp only [e1, List.length_map, ne_eq, not_false_eq_true, Option.map_some, Option.map_none, List.map_cons, List.map_nil, Bool.not_true, Bool.not_false, decide_true, decide_false, List.getElem?_cons_zero, List.getElem?_cons_succ, ↓aw1, ↓aw2, ↓aw17, aw3, aw4, aw5, aw6, aw7, aw8, aw9, aw10, aw11, aw12, aw13, aw14, aw15, aw16, aw19, Nat.reduceLeDiff, if_true, if_false, Nat.reduceEqDiff, Nat.reduceAdd, beq_self_eq_true, beq_true, beq_false, Bool.false_eq_true]
      exact Fin.same hcl rfl ⟨rfl, rfl⟩

theorem geta (h : List AObj) (o o' : AObj) : (h ++ [o] ++ [o'])[h.length]? = some o := by rw [List.append_assoc]; simp

set_option maxHeartbeats 1000000 in
theorem sameStmt_ev (s s' : Stmt) (hb : s.args.length < 2 ^ 60) (hb' : s'.args.length < 2 ^ 60) (ihT : ∀ h, EvR E0 32 [bodyv s.thn, bodyv s'.thn, .fn (.func 33) [] []] h (boolv (all2 eqS s.thn s'.thn)))
    (ihE : ∀ h, EvR E0 32 [bodyv s.els, bodyv s'.els, .fn (.func 33) [] []] h (boolv (all2 eqS s.els s'.els))) (h : List AObj) : EvR E0 33 [stmtv s, stmtv s'] h (boolv (eqS s s')) := by
  refine ev_of (fn := Tryd.f33) (hs := []) Tryd.func33 c33 (by simp) fun hcl => ?_
  rw [eqS_eq]
  cases k1 : decide (s.op = s'.op)
  · simp only [ac33, stmtv_eq, geta, last_obj, k1, List.take_succ_cons, List.take_zero, List.drop_zero, List.drop_succ_cons, ne_eq, not_false_eq_true, Option.map_some, Option.map_none, List.map_cons, List.map_nil, Bool.not_true, Bool.not_false, decide_true, decide_false, List.getElem?_cons_zero, List.getElem?_cons_succ, ↓aw1, ↓aw2, ↓aw17, aw3, aw4, aw5, aw6, aw7, aw8, aw9, aw10, aw11, aw12, aw13, aw14, aw15, aw16, aw19, Nat.reduceLeDiff, if_true, if_false, Nat.reduceEqDiff, Nat.reduceAdd, beq_self_eq_true, beq_true, beq_false, Bool.false_eq_true]
    exact Fin.sameJ hcl rfl ⟨by simp only [Bool.false_and], rfl⟩ (asc2 ..)
  · cases k2 : decide (s.name = s'.name)
    · simp only [ac33, stmtv_eq, geta, last_obj, k1, k2, List.take_succ_cons, List.take_zero, List.drop_zero, List.drop_succ_cons, ne_eq, not_false_eq_true, Option.map_some, Option.map_none, List.map_cons, List.map_nil, Bool.not_true, Bool.not_false, decide_true, decide_false, List.getElem?_cons_zero, List.getElem?_cons_succ, ↓aw1, ↓aw2, ↓aw17, aw3, aw4, aw5, aw6, aw7, aw8, aw9, aw10, aw11, aw12, aw13, aw14, aw15, aw16, aw19, Nat.reduceLeDiff, if_true, if_false, Nat.reduceEqDiff, Nat.reduceAdd, beq_self_eq_true, beq_true, beq_false, Bool.false_eq_true]
      exact Fin.sameJ hcl rfl ⟨by simp only [Bool.false_and, Bool.true_and], rfl⟩ (asc2 ..)
    · simp only [ac33, stmtv_eq, geta, last_obj, k1, k2, List.take_succ_cons, List.take_zero, List.drop_zero, List.drop_succ_cons, ne_eq, not_false_eq_true, Option.map_some, Option.map_none, List.map_cons, List.map_nil, Bool.not_true, Bool.not_false, decide_true, decide_false, List.getElem?_cons_zero, List.getElem?_cons_succ, ↓aw1, ↓aw2, ↓aw17, aw3, aw4, aw5, aw6, aw7, aw8, aw9, aw10, aw11, aw12, aw13, aw14, aw15, aw16, aw19, Nat.reduceLeDiff, if_true, if_false, Nat.reduceEqDiff, Nat.reduceAdd, beq_self_eq_true, beq_true, beq_false, Bool.false_eq_true]
      refine EvF.ret (args_ev s.args s'.args hb hb' _) ?_
      cases k3 : all2 eq1 s.args s'.args
      · simp only [ne_eq, not_false_eq_true, Option.map_some, Option.map_none, List.map_cons, List.map_nil, Bool.not_true, Bool.not_false, decide_true, decide_false, List.getElem?_cons_zero, List.getElem?_cons_succ, ↓aw1, ↓aw2, ↓aw17, aw3, aw4, aw5, aw6, aw7, aw8, aw9, aw10, aw11, aw12, aw13, aw14, aw15, aw16, aw19, Nat.reduceLeDiff, if_true, if_false, Nat.reduceEqDiff, Nat.reduceAdd, beq_self_eq_true, beq_true, beq_false, Bool.false_eq_true]
        exact Fin.sameJ hcl rfl ⟨by simp only [Bool.false_and, Bool.true_and], rfl⟩ (asc2 ..)
      · simp only [geta, last_obj, List.take_succ_cons, List.take_zero, List.drop_zero, List.drop_succ_cons, ne_eq, not_false_eq_true, Option.map_some, Option.map_none, List.map_cons, List.map_nil, Bool.not_true, Bool.not_false, decide_true, decide_false, List.getElem?_cons_zero, List.getElem?_cons_succ, ↓aw1, ↓aw2, ↓aw17, aw3, aw4, aw5, aw6, aw7, aw8, aw9, aw10, aw11, aw12, aw13, aw14, aw15, aw16, aw19, Nat.reduceLeDiff, if_true, if_false, Nat.reduceEqDiff, Nat.reduceAdd, beq_self_eq_true, beq_true, beq_false, Bool.false_eq_true]
        refine EvF.ret (ihT _) ?_
        cases k4 : all2 eqS s.thn s'.thn
        · simp only [ne_eq, not_false_eq_true, Option.map_some, Option.map_none, List.map_cons, List.map_nil, Bool.not_true, Bool.not_false, decide_true, decide_false, List.getElem?_cons_zero, List.getElem?_cons_succ, ↓aw1, ↓aw2, ↓aw17, aw3, aw4, aw5, aw6, aw7, aw8, aw9, aw10, aw11, aw12, aw13, aw14, aw15, aw16, aw19, Nat.reduceLeDiff, if_true, if_false, Nat.reduceEqDiff, Nat.reduceAdd, beq_self_eq_true, beq_true, beq_false, Bool.false_eq_true]
          exact Fin.sameJ hcl rfl ⟨by simp only [Bool.false_and, Bool.true_and], rfl⟩ (asc2 ..)
        · simp only [geta, last_obj, List.take_succ_cons, List.take_zero, List.drop_zero, List.drop_succ_cons, ne_eq, not_false_eq_true, Option.map_some, Option.map_none, List.map_cons, List.map_nil, Bool.not_true, Bool.not_false, decide_true, decide_false, List.getElem?_cons_zero, List.getElem?_cons_succ, ↓aw1, ↓aw2, ↓aw17, aw3, aw4, aw5, aw6, aw7, aw8, aw9, aw10, aw11, aw12, aw13, aw14, aw15, aw16, aw19, Nat.reduceLeDiff, if_true, if_false, Nat.reduceEqDiff, Nat.reduceAdd, beq_self_eq_true, beq_true, beq_false, Bool.false_eq_true]
          refine EvF.ret (ihE _) ?_
          simp only [ne_eq, not_false_eq_true, Option.map_some, Option.map_none, List.map_cons, List.map_nil, Bool.not_true, Bool.not_false, decide_true, decide_false, List.getElem?_cons_zero, List.getElem?_cons_succ, ↓aw1, ↓aw2, ↓aw17, aw3, aw4, aw5, aw6, aw7, aw8, aw9, aw10, aw11, aw12, aw13, aw14, aw15, aw16, aw19, Nat.reduceLeDiff, if_true, if_false, Nat.reduceEqDiff, Nat.reduceAdd, beq_self_eq_true, beq_true, beq_false, Bool.false_eq_true]
          exact Fin.sameJ hcl rfl ⟨by simp only [Bool.true_and], rfl⟩ (asc2 ..)

theorem sames_ev : ∀ (k : Nat) (l r : List Stmt), szL l ≤ k → mxL l ≤ 2 ^ 48 → mxL r ≤ 2 ^ 48 → ∀ h, EvR E0 32 [bodyv l, bodyv r, .fn (.func 33) [] []] h (boolv (all2 eqS l r)) := by
  intro k
  induction k using Nat.strongRecOn with
  | _ k ih =>
    intro l r hk hl hr h
    have h1 := mxL_len l
    have h2 := mxL_len r
    refine stmts_equal l r eqS h (by omega) (by omega) 33 fun a b ha hb h' => ?_
    have m1 := mxL_mem ha
    have m2 := mxL_mem hb
    have m3 := mxS_eq a
    have m4 := mxS_eq b
    have z1 := szL_mem ha
    have z2 := szS_eq a
    have l1 := mxA_len a.args
    have l2 := mxA_len b.args
    exact sameStmt_ev a b (by omega) (by omega) (fun h => ih (szL a.thn) (by omega) _ _ (Nat.le_refl _) (by omega) (by omega) h) (fun h => ih (szL a.els) (by omega) _ _ (Nat.le_refl _) (by omega) (by omega) h) h'

theorem sameFun_ev (f g : Fun) (hf : mxL f.body ≤ 2 ^ 48) (hg : mxL g.body ≤ 2 ^ 48) (h : List AObj) : EvR E0 31 [funv f, funv g] h (boolv (eqF f g)) := by
  refine ev_of (fn := Tryd.f31) (hs := []) Tryd.func31 c31 (by simp) fun hcl => ?_
  unfold eqF
  cases k1 : decide (f.name = g.name)
  · simp only [ac31, funv, geta, last_obj, k1, List.take_succ_cons, List.take_zero, List.drop_zero, List.drop_succ_cons, ne_eq, not_false_eq_true, Option.map_some, Option.map_none, List.map_cons, List.map_nil, Bool.not_true, Bool.not_false, decide_true, decide_false, List.getElem?_cons_zero, List.getElem?_cons_succ, ↓aw1, ↓aw2, ↓aw17, aw3, aw4, aw5, aw6, aw7, aw8, aw9, aw10, aw11, aw12, aw13, aw14, aw15, aw16, aw19, Nat.reduceLeDiff, if_true, if_false, Nat.reduceEqDiff, Nat.reduceAdd, beq_self_eq_true, beq_true, beq_false, Bool.false_eq_true]
    exact Fin.sameJ hcl rfl ⟨by simp only [Bool.false_and], rfl⟩ (asc2 ..)
  · simp only [ac31, funv, geta, last_obj, k1, List.take_succ_cons, List.take_zero, List.drop_zero, List.drop_succ_cons, ne_eq, not_false_eq_true, Option.map_some, Option.map_none, List.map_cons, List.map_nil, Bool.not_true, Bool.not_false, decide_true, decide_false, List.getElem?_cons_zero, List.getElem?_cons_succ, ↓aw1, ↓aw2, ↓aw17, aw3, aw4, aw5, aw6, aw7, aw8, aw9, aw10, aw11, aw12, aw13, aw14, aw15, aw16, aw19, Nat.reduceLeDiff, if_true, if_false, Nat.reduceEqDiff, Nat.reduceAdd, beq_self_eq_true, beq_true, beq_false, Bool.false_eq_true]
    refine EvF.ret (sames_ev _ f.body g.body (Nat.le_refl _) hf hg _) ?_
    simp only [ne_eq, not_false_eq_true, Option.map_some, Option.map_none, List.map_cons, List.map_nil, Bool.not_true, Bool.not_false, decide_true, decide_false, List.getElem?_cons_zero, List.getElem?_cons_succ, ↓aw1, ↓aw2, ↓aw17, aw3, aw4, aw5, aw6, aw7, aw8, aw9, aw10, aw11, aw12, aw13, aw14, aw15, aw16, aw19, Nat.reduceLeDiff, if_true, if_false, Nat.reduceEqDiff, Nat.reduceAdd, beq_self_eq_true, beq_true, beq_false, Bool.false_eq_true]
    exact Fin.sameJ hcl rfl ⟨by simp only [Bool.true_and], rfl⟩ (asc2 ..)

theorem same_ev (l r : List Fun) (hl : mxF l ≤ 2 ^ 48) (hr : mxF r ≤ 2 ^ 48) (h : List AObj) : EvR E0 15 [funsv l, funsv r] h (boolv (all2 eqF l r)) := by
  refine ev_of (fn := Tryd.f15) (hs := []) Tryd.func15 c15 (by simp) fun hcl => ?_
  have h1 := mxF_len l
  have h2 := mxF_len r
  simp only [ac15, ne_eq, not_false_eq_true, Option.map_some, Option.map_none, List.map_cons, List.map_nil, Bool.not_true, Bool.not_false, decide_true, decide_false, List.getElem?_cons_zero, List.getElem?_cons_succ, ↓aw1, ↓aw2, ↓aw17, aw3, aw4, aw5, aw6, aw7, aw8, aw9, aw10, aw11, aw12, aw13, aw14, aw15, aw16, aw19, Nat.reduceLeDiff, if_true, if_false, Nat.reduceEqDiff, Nat.reduceAdd, beq_self_eq_true, beq_true, beq_false, Bool.false_eq_true]
  refine EvF.ret (funs_equal l r eqF h (by omega) (by omega) 31 fun a b ha hb h' => sameFun_ev a b (by have := mxF_mem ha; omega) (by have := mxF_mem hb; omega) h') ?_
  simp only [ne_eq, not_false_eq_true, Option.map_some, Option.map_none, List.map_cons, List.map_nil, Bool.not_true, Bool.not_false, decide_true, decide_false, List.getElem?_cons_zero, List.getElem?_cons_succ, ↓aw1, ↓aw2, ↓aw17, aw3, aw4, aw5, aw6, aw7, aw8, aw9, aw10, aw11, aw12, aw13, aw14, aw15, aw16, aw19, Nat.reduceLeDiff, if_true, if_false, Nat.reduceEqDiff, Nat.reduceAdd, beq_self_eq_true, beq_true, beq_false, Bool.false_eq_true]
  exact Fin.same0 hcl rfl ⟨rfl, rfl⟩
end Go.Abs.Fr
