/- Numbers out of their digits: the plain law. -/
import Derived.Test.YtenhfnadhmjloaaDoorT7O
import Derived.Test.YtenhfnadhmjloaaDoorT7N
set_option linter.all false
namespace Go.Abs.T7
open Go Go.Abs Go.Proofs
set_option linter.unusedSimpArgs false

theorem dchar {d : Nat} (h : d < 10) : (UInt8.ofNat (48 + d)).toNat = 48 + d := by
  rw [UInt8.toNat_ofNat_of_lt' (by show 48 + d < 256; omega)]

theorem digs_dig : ∀ (f m : Nat) (c : UInt8), c ∈ digs f m → 48 ≤ c.toNat ∧ c.toNat ≤ 57
  | 0, _, c, h => by simp [digs] at h
  | f + 1, m, c, h => by
    unfold digs at h
    split at h
    · simp at h
    · rcases List.mem_append.1 h with h | h
      · exact digs_dig f _ c h
      · simp only [List.mem_singleton] at h
        subst h
        rw [dchar (Nat.mod_lt _ (by decide))]
        have := Nat.mod_lt m (show 0 < 10 by decide)
        omega

theorem digs_ne : ∀ (f m : Nat), m < 10 ^ f → 0 < m → digs f m ≠ []
  | 0, m, h, h' => by simp at h; omega
  | f + 1, m, h, h' => by
    unfold digs
    rw [if_neg (by omega)]
    simp

theorem digs_head : ∀ (f m : Nat) (c : UInt8), m < 10 ^ f → 0 < m → (digs f m).head? = some c → c.toNat ≠ 48
  | 0, m, c, h, h', _ => by simp at h; omega
  | f + 1, m, c, h, h', hc => by
    unfold digs at hc
    rw [if_neg (by omega)] at hc
    have hlt : m / 10 < 10 ^ f := by rw [Nat.pow_succ] at h; omega
    by_cases h0 : m / 10 = 0
    · rw [h0, digs_zero] at hc
      simp only [List.nil_append, List.head?_cons, Option.some.injEq] at hc
      subst hc
      rw [dchar (Nat.mod_lt _ (by decide))]
      omega
    · have hne := digs_ne f (m / 10) hlt (by omega)
      obtain ⟨a, l, e⟩ : ∃ a l, digs f (m / 10) = a :: l := by
        cases hd : digs f (m / 10) with
        | nil => exact absurd hd hne
        | cons a l => exact ⟨a, l, rfl⟩
      rw [e] at hc
      exact digs_head f _ c hlt (by omega) (by rw [e]; exact hc)

theorem digs_parse : ∀ (f m : Nat) (out : List UInt8), m < 18446744073709551616 → m < 10 ^ f → Lib.parseUint10 0 (digs f m ++ out) = Lib.parseUint10 m out
  | 0, m, out, h, h' => by
    have : m = 0 := by simpa using h'
    subst this; rfl
  | f + 1, m, out, h, h' => by
    unfold digs
    split
    · rename_i hz; subst hz; rfl
    · have hlt : m / 10 < 10 ^ f := by rw [Nat.pow_succ] at h'; omega
      rw [List.append_assoc, digs_parse f (m / 10) _ (by omega) hlt]
      have hd := Nat.mod_lt m (show 0 < 10 by decide)
      simp only [List.singleton_append, Lib.parseUint10, dchar hd]
      rw [if_pos (by omega), if_neg (by omega), if_neg (by omega)]
      congr 1
      omega

/-- The digits behind the sign. -/
def dgl (n : Int) : List UInt8 := if n = 0 then [48] else digs 20 n.natAbs

theorem dgl_facts (n : Int) (h0 : -9223372036854775808 < n) (h1 : n ≤ 9223372036854775807) :
    dgl n ≠ [] ∧ (∀ c, c ∈ dgl n → isDig c = true) ∧ (∀ c, (dgl n).head? = some c → c.toNat = 48 → n = 0) ∧ Lib.parseUint10 0 (dgl n) = .ok n.natAbs ∧ (dgl n).length ≤ 20 := by
  unfold dgl
  by_cases hn : n = 0
  · subst hn
    rw [if_pos rfl]
    refine ⟨by simp, fun c hc => ?_, fun _ _ _ => rfl, by decide, by simp⟩
    simp only [List.mem_singleton] at hc; subst hc; rfl
  · rw [if_neg hn]
    have hlt : n.natAbs < 10 ^ 20 := by have : (10 : Nat) ^ 20 = 100000000000000000000 := by decide
                                        omega
    refine ⟨digs_ne _ _ hlt (by omega), fun c hc => ?_, fun c hc h48 => absurd h48 (digs_head _ _ c hlt (by omega) hc), ?_, digs_len _ _⟩
    · have := digs_dig _ _ c hc
      simp only [isDig, Bool.and_eq_true, decide_eq_true_eq]; omega
    · have := digs_parse 20 n.natAbs [] (by omega) hlt
      rw [List.append_nil] at this
      rw [this]; rfl

theorem digits_eq (n : Int) : digits n = (if n < 0 then [45] else []) ++ dgl n := rfl

theorem atoi_digits (n : Int) (h0 : -9223372036854775808 < n) (h1 : n ≤ 9223372036854775807) : Lib.atoiAll (digits n) = .ok n := by
  obtain ⟨f1, f2, f3, f4, f5⟩ := dgl_facts n h0 h1
  rw [digits_eq]
  generalize hD : dgl n = D at f1 f2 f3 f4 f5
  have hpm : Lib.parseMag D = .ok n.natAbs := by unfold Lib.parseMag; rw [if_neg f1, f4]
  by_cases hneg : n < 0
  · rw [if_pos hneg]
    simp only [List.singleton_append, Lib.atoiAll]
    rw [if_pos (.inr rfl), hpm]
    simp only
    rw [if_neg (fun h => h.1 rfl), if_neg (by omega), if_pos (show UInt8.toNat 45 = 45 from rfl)]
    congr 1
    omega
  · rw [if_neg hneg, List.nil_append]
    obtain ⟨c, r, rfl⟩ : ∃ c r, D = c :: r := by cases D with | nil => exact absurd rfl f1 | cons c r => exact ⟨c, r, rfl⟩
    have hc := f2 c (by simp)
    simp only [isDig, Bool.and_eq_true, decide_eq_true_eq] at hc
    simp only [Lib.atoiAll]
    rw [if_neg (by omega), hpm]
    have hc45 : ¬ c.toNat = 45 := by omega
    simp only
    rw [if_neg (by omega), if_neg (fun h => hc45 h.1), if_neg hc45]
    congr 1
    omega

theorem pk_cons0 (c : UInt8) (l : List UInt8) : pk (c :: l) 0 = c := rfl
theorem pk_cons (c : UInt8) (l : List UInt8) (n : Nat) : pk (c :: l) (n + 1) = pk l n := by simp [pk]

theorem pk_mem {b : List UInt8} {n : Nat} (h : n < b.length) : pk b n ∈ b := by
  have : b[n]? = some b[n] := List.getElem?_eq_getElem h
  simp only [pk, this, Option.getD_some]
  exact List.getElem_mem h

/-- Digits go on to the text's end. -/
theorem dg_all {b : List UInt8} {at_ : Nat} : ∀ (f n : Nat), at_ + n ≤ b.length → b.length < at_ + n + f → (∀ k, at_ + n ≤ k → k < b.length → isDig (pk b k) = true) →
    at_ + dg (fun k => pk b (at_ + k)) f n = b.length
  | 0, n, h, h', _ => by omega
  | f + 1, n, h, h', hd => by
    unfold dg
    split
    · rename_i hdd
      rcases Nat.lt_or_ge (at_ + n) b.length with hl | hl
      · exact dg_all f (n + 1) (by omega) (by omega) fun k hk hk' => hd k (by omega) hk'
      · rw [pk_none hl] at hdd; exact absurd hdd (by decide)
    · rename_i hdd
      rcases Nat.lt_or_ge (at_ + n) b.length with hl | hl
      · exact absurd (hd _ (Nat.le_refl _) hl) hdd
      · omega

theorem dig_not (c : UInt8) : isDig c = true → isLet c = false ∧ blank c = false ∧ isC 45 c = false ∧ isC 34 c = false := by
  have := all_u8 (p := fun c => !isDig c || (!isLet c && !blank c && !isC 45 c && !isC 34 c)) (by decide +kernel) c
  intro h
  simpa [h, and_assoc] using this

theorem sk_digit {b : List UInt8} {f n : Nat} (h : isDig (pk b n) = true) : sk b f n = n := by
  cases f with
  | zero => rfl
  | succ f =>
    obtain ⟨_, h1, h2, _⟩ := dig_not _ h
    unfold sk
    split
    · rfl
    · rw [if_neg (by rw [h1]; simp), if_neg]
      intro hp
      rw [hasP_two hp] at h2; cases h2

theorem sk_end {b : List UInt8} {f : Nat} : sk b f b.length = b.length := by
  cases f with
  | zero => rfl
  | succ f => unfold sk; rw [if_pos (Nat.le_refl _)]

theorem scan_one {b : List UInt8} {t : Tok} (h0 : 0 < b.length) (h1 : b.length ≤ 65536) (hsk : sk b b.length 0 = 0) (hnx : nx b 0 = (t, b.length, true)) : scan b = ([t], b.length, 0) := by
  unfold scan
  rw [if_neg (by omega), hsk]
  obtain ⟨m, hm⟩ : ∃ m, b.length = m + 1 := ⟨b.length - 1, by omega⟩
  rw [show b.length + 1 = (m + 1) + 1 by omega]
  unfold scn
  rw [if_neg (by omega), hnx]
  simp only [if_true]
  rw [sk_end]
  unfold scn
  rw [if_pos (Nat.le_refl _)]
  rfl

theorem scan_digits (n : Int) (h0 : -9223372036854775808 < n) (h1 : n ≤ 9223372036854775807) : scan (digits n) = ([⟨2, [], n, 0⟩], (digits n).length, 0) := by
  obtain ⟨f1, f2, f3, f4, f5⟩ := dgl_facts n h0 h1
  have hat := atoi_digits n h0 h1
  rw [digits_eq] at hat ⊢
  generalize hD : dgl n = D at f1 f2 f3 f4 f5 hat
  obtain ⟨c, r, rfl⟩ : ∃ c r, D = c :: r := by cases D with | nil => exact absurd rfl f1 | cons c r => exact ⟨c, r, rfl⟩
  have hc := f2 c (by simp)
  have hmin : decide (n = -9223372036854775808) = false := by simp; omega
  have key : ∀ (b : List UInt8) (f : Nat), b.length ≤ 21 → Lib.atoiAll b = .ok n → (fst fun k => pk b (0 + k)) = f → f < b.length → (∀ k, f ≤ k → k < b.length → isDig (pk b k) = true) →
      (isC 48 (pk b f) = true → b.length = 1 ∧ f = 0) → nt b 0 = (n, b.length, true) := by
    intro b f hl ha hf hfl hd h48
    have hdg := dg_all (b := b) (at_ := 0) (b.length + 2) f (by omega) (by omega) (fun k hk hk' => hd k (by omega) hk')
    rw [Nat.zero_add] at hdg
    unfold nt
    dsimp only
    rw [hf, hdg, if_neg]
    · rw [List.drop_zero, List.take_length]
      unfold numt
      rw [ha]
      simp only [hmin, Bool.not_false]
    · have hz : isLet (pk b (0 + b.length)) = false := by rw [pk_none (by omega)]; rfl
      rw [hz, Bool.or_false, Nat.zero_add]
      intro hh
      simp only [Bool.and_eq_true, Bool.or_eq_true, decide_eq_true_eq] at hh
      have := h48 hh.1
      omega
  by_cases hneg : n < 0
  · rw [if_pos hneg] at hat ⊢
    simp only [List.singleton_append] at hat ⊢
    have hd1 : ∀ k, 1 ≤ k → k < (45 :: c :: r).length → isDig (pk (45 :: c :: r) k) = true := by
      intro k hk hk'
      obtain ⟨k, rfl⟩ : ∃ j, k = j + 1 := ⟨k - 1, by omega⟩
      rw [pk_cons]
      exact f2 _ (pk_mem (by simpa using hk'))
    have hnt := key (45 :: c :: r) 1 (by simp only [List.length_cons] at f5 ⊢; omega) hat rfl (by simp) hd1 (fun h => by
      exfalso
      have h48 : c.toNat = 48 := by
        have h : isC 48 c = true := h
        simp only [isC, decide_eq_true_eq] at h; omega
      have := f3 c rfl h48
      omega)
    have hnd := dig_not c hc
    refine scan_one (by simp) (by simp only [List.length_cons] at f5 ⊢; omega) ?_ ?_
    · simp only [List.length_cons]
      unfold sk
      rw [if_neg (by simp), if_neg (by rw [pk_cons0]; decide), if_neg]
      intro hp
      simp only [hasP, List.drop_zero, Bool.and_eq_true, decide_eq_true_eq] at hp
      have : c = 45 := by simpa using hp.2
      subst this
      exact absurd hc (by decide)
    · unfold nx
      rw [if_neg (by rw [pk_cons0]; decide), if_pos (by show (isDig 45 || isC 45 45 && isDig c) = true; rw [hc]; rfl), hnt]
      simp
  · rw [if_neg hneg] at hat ⊢
    simp only [List.nil_append] at hat ⊢
    have hd1 : ∀ k, 0 ≤ k → k < (c :: r).length → isDig (pk (c :: r) k) = true := fun k _ hk => f2 _ (pk_mem hk)
    have hnd := dig_not c hc
    have hfst : (fst fun k => pk (c :: r) (0 + k)) = 0 := by unfold fst; rw [if_neg]; show ¬ isC 45 c = true; rw [hnd.2.2.1]; simp
    have hnt := key (c :: r) 0 (by omega) hat hfst (by simp) hd1 (fun h => by
      have h48 : c.toNat = 48 := by
        have h : isC 48 c = true := h
        simp only [isC, decide_eq_true_eq] at h; omega
      have := f3 c rfl h48
      subst this
      have : dgl 0 = [48] := rfl
      rw [this] at hD
      rw [← hD]
      exact ⟨rfl, rfl⟩)
    refine scan_one (by simp) (by omega) (sk_digit (by rw [pk_cons0]; exact hc)) ?_
    unfold nx
    rw [if_neg (by rw [pk_cons0, hnd.1]; simp), if_pos (by rw [pk_cons0, hc]; rfl), hnt]
    simp

theorem scan_nought (m : Int) (h0 : 0 ≤ m) (h1 : m ≤ 9223372036854775807) : scan (120 :: 32 :: 48 :: digits m) = ([], 2, 6) := by
  obtain ⟨f1, f2, f3, f4, f5⟩ := dgl_facts m (by omega) h1
  rw [digits_eq, if_neg (by omega), List.nil_append]
  generalize hD : dgl m = D at f1 f2 f3 f4 f5
  obtain ⟨c, r, rfl⟩ : ∃ c r, D = c :: r := by cases D with | nil => exact absurd rfl f1 | cons c r => exact ⟨c, r, rfl⟩
  generalize hb : 120 :: 32 :: 48 :: c :: r = b
  have p0 : pk b 0 = 120 := by rw [← hb]; rfl
  have p1 : pk b 1 = 32 := by rw [← hb]; rfl
  have p2 : pk b 2 = 48 := by rw [← hb]; rfl
  have hlen : b.length = (c :: r).length + 3 := by rw [← hb]; simp
  have hl1 : 1 ≤ (c :: r).length := by simp
  obtain ⟨L, hL⟩ : ∃ L, b.length = L + 4 := ⟨b.length - 4, by omega⟩
  have hd : ∀ k, 2 + 0 ≤ k → k < b.length → isDig (pk b k) = true := by
    intro k hk hk'
    rcases Nat.eq_or_lt_of_le hk with h | h
    · rw [← h]; rw [p2]; rfl
    · obtain ⟨k, rfl⟩ : ∃ j, k = j + 3 := ⟨k - 3, by omega⟩
      rw [← hb, pk_cons, pk_cons, pk_cons]
      exact f2 _ (pk_mem (by omega))
  have hdg := dg_all (b := b) (at_ := 2) (b.length + 2) 0 (by omega) (by omega) hd
  have hsk0 : sk b b.length 0 = 0 := sk_letter (by rw [p0]; rfl)
  have hwl : wl (fun k => pk b (0 + k)) (b.length + 1) 1 = (1, true) := by
    unfold wl
    rw [if_neg (by rw [Nat.zero_add, p1]; decide)]
    rw [if_pos (by rw [Nat.zero_add, p1]; rfl)]
  have hn0 : nx b 0 = (⟨1, (b.drop 0).take 1, 0, 0⟩, 1, true) := by
    unfold nx
    rw [if_pos (by rw [p0]; rfl), hwl]
    simp
  have hsk1 : sk b b.length 1 = 2 := by
    rw [hL]
    unfold sk
    rw [if_neg (by omega), if_pos (by rw [p1]; rfl)]
    exact sk_digit (by rw [p2]; rfl)
  have hf : (fst fun k => pk b (2 + k)) = 0 := by unfold fst; rw [if_neg]; show ¬ isC 45 (pk b 2) = true; rw [p2]; decide
  have hn2 : nx b 2 = (⟨2, [], 0, 2⟩, 2, false) := by
    have hnt : nt b 2 = (0, 0, false) := by
      unfold nt
      dsimp only
      rw [hf, if_pos]
      have e1 : isC 48 (pk b (2 + 0)) = true := by rw [Nat.add_zero, p2]; rfl
      have e2 : decide (1 < dg (fun k => pk b (2 + k)) (b.length + 2) 0) = true := by simp; omega
      rw [e1, e2]; rfl
    unfold nx
    rw [if_neg (by rw [p2]; decide), if_pos (by rw [p2]; rfl), hnt]
    simp
  unfold scan
  rw [if_neg (by omega), hsk0, hL]
  unfold scn
  rw [if_neg (by omega), hn0]
  simp only [if_true, ← hL, hsk1]
  rw [show b.length = (L + 3) + 1 by omega]
  unfold scn
  rw [if_neg (by omega), hn2]
  simp
end Go.Abs.T7
