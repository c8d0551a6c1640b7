/- What names are made of; what stands in a text in quotes. -/
import Derived.Test.YtgbedffflggenaaDoorFrK
set_option linter.all false
namespace Go.Abs.Fr
open Go Go.Abs Go.Proofs
set_option linter.unusedSimpArgs false
set_option maxRecDepth 100000

def aln (c : UInt8) : Bool := isLet c || isDig c

theorem wl_chars (p : Nat → UInt8) : ∀ (f n R : Nat), wl p f n = (R, true) → ∀ k, n ≤ k → k < R → aln (p k) = true ∨ isC 45 (p k) = true
  | 0, n, R, h, k, h1, h2 => by simp only [wl, Prod.mk.injEq, and_true] at h; omega
  | f + 1, n, R, h, k, h1, h2 => by
    simp only [wl] at h
    split at h
    · rename_i ha
      by_cases hk : k = n
      · subst hk; exact .inl ha
      · exact wl_chars p f (n + 1) R h k (by omega) h2
    · split at h
      · simp only [Prod.mk.injEq, and_true] at h; omega
      · rename_i hb
        simp only [Bool.or_eq_true, Bool.not_eq_true', not_or, Bool.not_eq_false] at hb
        split at h
        · simp at h
        · by_cases hk : k = n
          · subst hk; exact .inr hb.1
          · exact wl_chars p f (n + 1) R h k (by omega) h2

theorem whl_chars {b : List UInt8} (h : whl b = true) : 0 < b.length ∧ isLet (pk b 0) = true ∧ ∀ c, c ∈ b → aln c = true ∨ isC 45 c = true := by
  unfold whl at h
  simp only [Bool.and_eq_true, decide_eq_true_eq] at h
  obtain ⟨⟨h1, h2⟩, h3⟩ := h
  have hpos : 0 < b.length := by
    cases b with
    | nil => exact absurd h1 (by decide)
    | cons _ _ => simp
  refine ⟨hpos, h1, fun c hc => ?_⟩
  obtain ⟨i, hi⟩ := List.getElem?_of_mem hc
  have hil := (List.getElem?_eq_some_iff.1 hi).1
  have hp : pk b i = c := by simp [pk, hi]
  by_cases h0 : i = 0
  · subst h0; rw [hp] at h1; left; simp [aln, h1]
  · have := wl_chars (fun k => pk b k) (b.length + 1) 1 b.length (Prod.ext h3 h2) i (by omega) hil
    rw [hp] at this; exact this

/-- A name: letters and digits, a letter first. -/
structure Alnum (s : ByteArray) : Prop where
  pos : 0 < s.data.toList.length
  fst : isLet (pk s.data.toList 0) = true
  all : ∀ c, c ∈ s.data.toList → aln c = true

theorem isCto45 {c : UInt8} (h : isC 45 c = true) : c = 45 := by
  unfold isC at h
  rw [decide_eq_true_eq] at h
  apply UInt8.toNat_inj.1
  rw [show (45 : UInt8).toNat = 45 from rfl]
  omega
theorem alnum_of {s : ByteArray} (h1 : whl s.data.toList = true) (h2 : hy s = false) : Alnum s := by
  obtain ⟨a, b, c⟩ := whl_chars h1
  refine ⟨a, b, fun x hx => ?_⟩
  rcases c x hx with h | h
  · exact h
  · have := isCto45 h
    subst this
    unfold hy at h2
    rw [List.contains_iff_mem.2 hx] at h2
    cases h2
theorem isFn_alnum {s : ByteArray} (h : isFn s = true) : Alnum s := by
  unfold isFn lowr at h
  simp only [Bool.and_eq_true, Bool.not_eq_true'] at h
  exact alnum_of h.2.1.1 h.2.2
theorem isMe_alnum {s : ByteArray} (h : isMe s = true) : Alnum s := by
  unfold isMe uppr at h
  simp only [Bool.and_eq_true, Bool.not_eq_true'] at h
  exact alnum_of h.1.1 h.2

theorem each_u8 {p : UInt8 → Prop} (h : ∀ n : _root_.Fin 256, p (UInt8.ofNat n.val)) (c : UInt8) : p c := by
  have := h ⟨c.toNat, c.toNat_lt⟩
  simpa using this

theorem aln_ne {c : UInt8} (h : aln c = true) : c ≠ 9 ∧ c ≠ 10 ∧ c ≠ 32 ∧ c ≠ 40 ∧ c ≠ 46 ∧ c ≠ 125 := by
  revert h
  exact each_u8 (p := fun c => aln c = true → c ≠ 9 ∧ c ≠ 10 ∧ c ≠ 32 ∧ c ≠ 40 ∧ c ≠ 46 ∧ c ≠ 125) (by decide +kernel) c
theorem let_ne {c : UInt8} (h : isLet c = true) : aln c = true := by simp [aln, h]

/-! ### What is told of a statement that is shaped -/
structure OkS (B : List Stmt → Bool) (s : Stmt) : Prop where
  nm : Alnum s.name
  args : ∀ a, a ∈ s.args → okArg a = true
  cases : (s.op = 2 ∧ s.args = [] ∧ s.thn = [] ∧ s.els = [] ∧ isFn s.name = true) ∨ (s.op = 1 ∧ s.thn = [] ∧ s.els = []) ∨ (s.op = 4 ∧ s.els = [] ∧ B s.thn = true) ∨ (s.op = 3 ∧ B s.thn = true ∧ B s.els = true)

theorem okS_of {B : List Stmt → Bool} {s : Stmt} (h : okS B s = true) : OkS B s := by
  unfold okS at h
  by_cases k2 : s.op = 2
  · rw [if_pos (by simpa using k2)] at h
    simp only [Bool.and_eq_true, decide_eq_true_eq] at h
    obtain ⟨hn, h⟩ := h
    have ha : s.args = [] := List.length_eq_zero_iff.1 (by omega)
    exact ⟨isFn_alnum hn, (by rw [ha]; intro a h; cases h), .inl ⟨k2, ha, List.length_eq_zero_iff.1 (by omega), List.length_eq_zero_iff.1 (by omega), hn⟩⟩
  · rw [if_neg (by simpa using k2)] at h
    by_cases hm : (!isMe s.name || (decide (4096 < s.args.length) || s.args.any fun a => !okArg a)) = true
    · rw [if_pos hm] at h; cases h
    · rw [if_neg hm] at h
      simp only [Bool.or_eq_true, Bool.not_eq_true', not_or, List.any_eq_true, not_exists, not_and, Bool.not_eq_false] at hm
      refine ⟨isMe_alnum hm.1, hm.2.2, ?_⟩
      by_cases k1 : s.op = 1
      · rw [if_pos (by simpa using k1)] at h
        simp only [decide_eq_true_eq] at h
        exact .inr (.inl ⟨k1, List.length_eq_zero_iff.1 (by omega), List.length_eq_zero_iff.1 (by omega)⟩)
      · rw [if_neg (by simpa using k1)] at h
        by_cases k4 : s.op = 4
        · rw [if_pos (by simpa using k4)] at h
          simp only [Bool.and_eq_true, decide_eq_true_eq] at h
          exact .inr (.inr (.inl ⟨k4, List.length_eq_zero_iff.1 h.1, h.2⟩))
        · rw [if_neg (by simpa using k4)] at h
          simp only [Bool.and_eq_true, decide_eq_true_eq] at h
          exact .inr (.inr (.inr ⟨h.1, h.2.1, h.2.2⟩))
end Go.Abs.Fr

namespace Go.Abs.Fr
open Go Go.Abs Go.Proofs
set_option linter.unusedSimpArgs false
set_option maxRecDepth 100000

/-- How many lines end in a text. -/
def nl (l : List UInt8) : Nat := l.countP (isC 10)
theorem nl_append (a b : List UInt8) : nl (a ++ b) = nl a + nl b := List.countP_append ..
theorem nl_nil : nl [] = 0 := rfl
theorem nl_free {l : List UInt8} (h : ∀ c, c ∈ l → c ≠ 10) : nl l = 0 := by
  refine List.countP_eq_zero.2 fun c hc => ?_
  have := h c hc
  intro h2
  unfold isC at h2
  rw [decide_eq_true_eq] at h2
  refine this (UInt8.toNat_inj.1 ?_)
  rw [show (10 : UInt8).toNat = 10 from rfl]
  omega

theorem decDigits_chars : ∀ (n : Nat) (c : UInt8), c ∈ Lib.decDigits n → isDig c = true := by
  intro n
  induction n using Nat.strongRecOn with
  | _ n ih =>
    intro c hc
    by_cases h : n < 10
    · rw [Lib.decDigits_one h] at hc
      rw [List.mem_singleton.1 hc]
      exact (show ∀ n : _root_.Fin 10, isDig (UInt8.ofNat (48 + n.val)) = true by decide +kernel) ⟨n, h⟩
    · rw [Lib.decDigits, dif_neg h] at hc
      rcases List.mem_append.1 hc with hc | hc
      · exact ih (n / 10) (by omega) c hc
      · rw [List.mem_singleton.1 hc]
        exact (show ∀ n : _root_.Fin 10, isDig (UInt8.ofNat (48 + n.val)) = true by decide +kernel) ⟨n % 10, Nat.mod_lt _ (by decide)⟩
theorem itoa_chars {n : Int} {c : UInt8} (h : c ∈ Lib.itoa n) : c = 45 ∨ isDig c = true := by
  unfold Lib.itoa at h
  split at h
  · rcases List.mem_cons.1 h with h | h
    · exact .inl h
    · exact .inr (decDigits_chars _ _ h)
  · exact .inr (decDigits_chars _ _ (by simpa using h))
theorem dig_ne {c : UInt8} (h : isDig c = true) : c ≠ 10 ∧ c ≠ 34 ∧ c ≠ 44 ∧ c ≠ 41 ∧ c ≠ 45 := by
  revert h
  exact each_u8 (p := fun c => isDig c = true → c ≠ 10 ∧ c ≠ 34 ∧ c ≠ 44 ∧ c ≠ 41 ∧ c ≠ 45) (by decide +kernel) c
theorem qc_free (c : UInt8) : ∀ x, x ∈ qc c → x ≠ 10 := each_u8 (p := fun c => ∀ x, x ∈ qc c → x ≠ 10) (by decide +kernel) c
theorem quo_free (l : List UInt8) : ∀ x, x ∈ quo l → x ≠ 10 := by
  intro x hx
  unfold quo at hx
  rcases List.mem_cons.1 hx with rfl | hx
  · decide
  · rcases List.mem_append.1 hx with hx | hx
    · obtain ⟨c, _, hc⟩ := List.mem_flatMap.1 hx
      exact qc_free c x hc
    · rw [List.mem_singleton.1 hx]; decide
theorem argt_free (a : Arg) : ∀ x, x ∈ argt a → x ≠ 10 := by
  intro x hx
  unfold argt at hx
  split at hx
  · exact quo_free _ x hx
  · rcases itoa_chars hx with rfl | h
    · decide
    · exact (dig_ne h).1
theorem joinTail_free (l : List Arg) : ∀ x, x ∈ Lib.joinTail [44, 32] (l.map argt) → x ≠ 10 := by
  induction l with
  | nil => intro x hx; simp [Lib.joinTail] at hx
  | cons a l ih =>
    intro x hx
    simp only [Lib.joinTail, List.map_cons, List.flatten_cons, List.mem_append] at hx
    rcases hx with (hx | hx) | hx
    · simp only [List.mem_cons, List.not_mem_nil, or_false] at hx
      rcases hx with rfl | rfl <;> decide
    · exact argt_free a x hx
    · exact ih x (by simpa [Lib.joinTail] using hx)
theorem argsT_free (l : List Arg) : ∀ x, x ∈ argsT l → x ≠ 10 := by
  cases l with
  | nil => intro x hx; simp [argsT, Lib.join_nil] at hx
  | cons a l =>
    intro x hx
    simp only [argsT, List.map_cons, Lib.join_cons, List.mem_append] at hx
    rcases hx with hx | hx
    · exact argt_free a x hx
    · exact joinTail_free l x hx
theorem name_free {s : ByteArray} (h : Alnum s) : ∀ x, x ∈ s.data.toList → x ≠ 10 := fun x hx => (aln_ne (h.all x hx)).2.1

theorem head_free {B : List Stmt → Bool} {s : Stmt} (h : OkS B s) : nl (headT s).flatten = 0 := by
  refine nl_free fun x hx => ?_
  have hn := name_free h.nm
  have ha := argsT_free s.args
  have hcall : ∀ x, x ∈ callT s → x ≠ 10 := by
    intro x hx
    simp only [callT, List.mem_cons, List.mem_append, List.not_mem_nil, or_false] at hx
    rcases hx with rfl | rfl | hx | rfl | hx | rfl
    · decide
    · decide
    · exact hn x hx
    · decide
    · exact ha x hx
    · decide
  unfold headT at hx
  repeat' split at hx
  all_goals simp only [List.flatten_cons, List.flatten_nil, List.mem_append, List.mem_cons, List.not_mem_nil, or_false] at hx
  · exact hcall x hx
  · rcases hx with hx | rfl | rfl | rfl
    · exact hn x hx
    all_goals decide
  · rcases hx with (rfl | rfl | rfl | rfl) | hx | (rfl | rfl)
    any_goals decide
    exact hcall x hx
  · rcases hx with (rfl | rfl | rfl) | hx | (rfl | rfl)
    any_goals decide
    exact hcall x hx

theorem nl_line (t : Nat) (l : List (List UInt8)) : nl (lineT t l) = nl l.flatten + 1 := by
  unfold lineT
  rw [nl_append, nl_append, nl_free (l := List.replicate t 9) (fun c hc => by rw [(List.mem_replicate.1 hc).2]; decide)]
  rw [show nl [10] = 1 from rfl]; omega

theorem nl_stmt {B : List Stmt → Bool} {s : Stmt} (h : OkS B s) (ih : ∀ l, B l = true → ∀ t, szL l ≤ nl (stmtsT t l) ∧ nl (stmtsT t l) ≤ 3 * szL l) (t : Nat) : szS s ≤ nl (stmtT t s) ∧ nl (stmtT t s) ≤ 3 * szS s := by
  have hf := head_free h
  have hz := szS_eq s
  rw [stmtT_eq, nl_append, nl_line, hf]
  have e1 : nl (lineT t [[125]]) = 1 := by rw [nl_line]; rfl
  have e2 : nl (lineT t [[125, 32, 101, 108, 115, 101, 32, 123]]) = 1 := by rw [nl_line]; rfl
  rcases h.cases with ⟨h1, h2, h3, h4, _⟩ | ⟨h1, h2, h3⟩ | ⟨h1, h2, h3⟩ | ⟨h1, h2, h3⟩
  · rw [if_pos (by simp [h1]), nl_nil, hz, h3, h4]; simp [szL]
  · rw [if_pos (by simp [h1]), nl_nil, hz, h2, h3]; simp [szL]
  · have := ih s.thn h3 (t + 1)
    rw [if_neg (by simp [h1]), nl_append, nl_append, h2, if_pos List.length_nil, nl_nil, e1, hz, h2]
    simp only [szL]; omega
  · have i1 := ih s.thn h2 (t + 1)
    have i2 := ih s.els h3 (t + 1)
    rw [if_neg (by simp [h1]), nl_append, nl_append, e1, hz]
    split
    · rename_i h0
      have : s.els = [] := List.length_eq_zero_iff.1 h0
      rw [nl_nil, this]; simp only [szL]; omega
    · rename_i h0
      have := szL_len s.els
      rw [nl_append, e2]; omega

theorem nl_list (P : Stmt → Prop) (hP : ∀ s, P s → ∀ t, szS s ≤ nl (stmtT t s) ∧ nl (stmtT t s) ≤ 3 * szS s) : ∀ (l : List Stmt), (∀ s, s ∈ l → P s) → ∀ t, szL l ≤ nl (stmtsT t l) ∧ nl (stmtsT t l) ≤ 3 * szL l
  | [], _, t => by simp [szL, stmtsT, nl]
  | s :: l, h, t => by
    have h1 := hP s (h s (List.mem_cons_self ..)) t
    have h2 := nl_list P hP l (fun x hx => h x (List.mem_cons_of_mem _ hx)) t
    simp only [szL, stmtsT, nl_append]; omega

theorem nl_body : ∀ (r : Nat) (l : List Stmt), okB r l = true → ∀ t, szL l ≤ nl (stmtsT t l) ∧ nl (stmtsT t l) ≤ 3 * szL l
  | 0, l, h, t => by
    obtain rfl : l = [] := List.length_eq_zero_iff.1 (by simpa [okB] using h)
    simp [szL, stmtsT, nl]
  | r + 1, l, h, t => nl_list (fun s => OkS (okB r) s) (fun s hs t => nl_stmt hs (fun l hl t => nl_body r l hl t) t) l (fun s hs => okS_of (okB_mem h hs)) t

theorem okF_of {l : List Fun} (h : okFs l = true) {f : Fun} (hf : f ∈ l) : isFn f.name = true ∧ okB 40 f.body = true := by
  simp only [okFs, Bool.and_eq_true, Bool.not_eq_true', List.any_eq_false, Bool.not_eq_true'] at h
  have := h.2 f hf
  simp only [okF, Bool.not_eq_false, Bool.and_eq_true] at this
  exact this

theorem nl_fun {f : Fun} (h1 : isFn f.name = true) (h2 : okB 40 f.body = true) : nl (funT f) = 2 + nl (stmtsT 1 f.body) := by
  unfold funT
  rw [nl_append, nl_append, nl_line, nl_line, nl_free (l := List.flatten [[102, 117, 110, 99, 32], f.name.data.toList, [40, 99, 32, 42, 67, 41, 32, 123]]) ?_, nl_free (l := List.flatten [[125]]) (by decide)]
  · omega
  · intro x hx
    simp only [List.flatten_cons, List.flatten_nil, List.mem_append, List.append_nil] at hx
    rcases hx with hx | hx | hx
    · revert hx; revert x; decide
    · exact name_free (isFn_alnum h1) x hx
    · revert hx; revert x; decide

theorem nl_funs : ∀ (l : List Fun), (∀ f, f ∈ l → isFn f.name = true ∧ okB 40 f.body = true) → szF l + l.length ≤ nl (funsT l) ∧ nl (funsT l) ≤ 3 * szF l
  | [], _ => by simp [funsT, nl, szF]
  | f :: l, h => by
    obtain ⟨h1, h2⟩ := h f (List.mem_cons_self ..)
    have ih := nl_funs l fun x hx => h x (List.mem_cons_of_mem _ hx)
    have hb := nl_body 40 f.body h2 1
    have hf := nl_fun h1 h2
    have e : funsT (f :: l) = funT f ++ funsT l := rfl
    rw [e, nl_append, hf]
    simp only [szF, List.length_cons]; omega

theorem okFs_append {a b : List Fun} (ha : okFs a = true) (hb : okFs b = true) (hl : a.length + b.length ≤ 4096) : okFs (a ++ b) = true := by
  simp only [okFs, Bool.and_eq_true, decide_eq_true_eq, Bool.not_eq_true', List.any_append, Bool.or_eq_false_iff, List.length_append] at ha hb ⊢
  exact ⟨hl, ha.2, hb.2⟩
theorem textT_append {a b : List Fun} (ha : okFs a = true) (hb : okFs b = true) (hl : a.length + b.length ≤ 4096) : textT (a ++ b) = textT a ++ textT b := by
  simp only [textT, ha, hb, okFs_append ha hb hl, if_true, funsT, List.flatMap_append]
end Go.Abs.Fr
