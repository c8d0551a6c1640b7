/- The order of tokens: the plain law. -/
import Derived.Test.YtenhfnadhmjloaaDoorT7N
set_option linter.all false
namespace Go.Abs.T7
open Go Go.Abs Go.Proofs
set_option linter.unusedSimpArgs false

def Ord (b : List UInt8) : Nat → List Tok → Prop
  | _, [] => True
  | last, t :: ts => last ≤ t.place ∧ t.place < b.length ∧ (1 ≤ t.kind ∧ t.kind ≤ 4) ∧
    ((t.kind = 1 ∨ t.kind = 3) → 1 ≤ t.text.length ∧ t.place + t.text.length ≤ b.length ∧ (b.drop t.place).take t.text.length = t.text) ∧ t.text.length ≤ b.length ∧
    Ord b (t.place + max t.text.length 1) ts

theorem Ord.mono {b : List UInt8} {m n : Nat} {ts : List Tok} (h : Ord b n ts) (hm : m ≤ n) : Ord b m ts := by
  cases ts with
  | nil => trivial
  | cons t ts => exact ⟨Nat.le_trans hm h.1, h.2⟩

theorem qt_len {b : List UInt8} {at_ : Nat} : ∀ (f n : Nat) (out : List UInt8), (qtt (qt b at_ f n out)).2.2 = true → (qtt (qt b at_ f n out)).1.length + n < out.length + (qtt (qt b at_ f n out)).2.1 + 1
  | 0, _, _ => by simp [qt, qtt]
  | f + 1, n, out => by
    unfold qt
    split
    · simp [qtt]
    · split
      · split
        · intro h; have := qt_len f (n + 2) _ h; simp at this ⊢; omega
        · simp [qtt]; omega
      · split
        · simp [qtt]
        · intro h; have := qt_len f (n + 1) _ h; simp at this ⊢; omega

theorem nx_ord {b : List UInt8} {at_ : Nat} (hk : at_ < b.length) (hok : (nx b at_).2.2 = true) :
    (1 ≤ (nx b at_).1.kind ∧ (nx b at_).1.kind ≤ 4) ∧
    (((nx b at_).1.kind = 1 ∨ (nx b at_).1.kind = 3) → 1 ≤ (nx b at_).1.text.length ∧ at_ + (nx b at_).1.text.length ≤ b.length ∧ (b.drop at_).take (nx b at_).1.text.length = (nx b at_).1.text) ∧
    at_ + max (nx b at_).1.text.length 1 ≤ (nx b at_).2.1 := by
  have hb := nx_bounds hk hok
  unfold nx at hok hb ⊢
  split at hok
  · rename_i hl
    rw [if_pos hl] at hb ⊢
    split at hok
    · rename_i hw
      rw [if_pos hw] at hb ⊢
      simp only [List.length_take, List.length_drop] at hb ⊢
      generalize (wl (fun k => pk b (at_ + k)) (b.length + 1) 1).1 = m at hb ⊢
      have hm : min m (b.length - at_) = m := by omega
      rw [hm]
      exact ⟨⟨by omega, by omega⟩, fun _ => ⟨by omega, by omega, rfl⟩, by omega⟩
    · cases hok
  · rename_i hl
    rw [if_neg hl] at hb ⊢
    split at hok
    · rename_i hd
      rw [if_pos hd] at hb ⊢
      simp only [List.length_nil] at hok hb ⊢
      rw [if_pos hok] at hb ⊢
      exact ⟨⟨by omega, by omega⟩, fun h => by omega, by omega⟩
    · rename_i hd
      rw [if_neg hd] at hb ⊢
      split at hok
      · rename_i hq
        rw [if_pos hq] at hb ⊢
        simp only at hok hb ⊢
        rw [if_pos hok] at hb ⊢
        have h1 := qt_len _ _ _ hok
        simp only [List.length_nil] at h1
        exact ⟨⟨by omega, by omega⟩, fun h => by omega, by omega⟩
      · rename_i hq
        rw [if_neg hq] at hb ⊢
        split at hok
        · rename_i x hx
          simp only [hx, List.length_take, List.length_drop] at hb ⊢
          generalize x.size = m at hb ⊢
          have hm : min m (b.length - at_) = m := by omega
          rw [hm]
          exact ⟨⟨by omega, by omega⟩, fun _ => ⟨by omega, by omega, rfl⟩, by omega⟩
        · cases hok

theorem scn_ord {b : List UInt8} : ∀ (f n : Nat) (out : List Tok), n ≤ b.length → b.length < n + f → (scn b f n out).2.2 = 0 →
    ∃ ts, (scn b f n out).1 = out ++ ts ∧ Ord b n ts ∧ (scn b f n out).2.1 = b.length
  | 0, n, out, h1, h2 => by omega
  | f + 1, n, out, h1, h2 => by
    unfold scn
    split
    · intro _
      exact ⟨[], by simp, trivial, by simp only; omega⟩
    · rename_i hn
      split
      · rename_i hok
        intro he
        have hb := nx_bounds (by omega) hok
        have ho := nx_ord (by omega) hok
        have hp := nx_place b n
        have hs := sk_bounds b b.length (nx b n).2.1 hb.2
        obtain ⟨ts, e1, e2, e3⟩ := scn_ord f _ _ hs.2 (by omega) he
        refine ⟨(nx b n).1 :: ts, by rw [e1]; simp, ⟨by omega, by omega, ho.1, by rw [hp]; exact ho.2.1, by omega, e2.mono (by omega)⟩, e3⟩
      · intro he; cases he

theorem scn_err {b : List UInt8} : ∀ (f n : Nat) (out : List Tok), n ≤ b.length → b.length < n + f → (scn b f n out).2.2 ≠ 0 → (scn b f n out).1 = [] ∧ (scn b f n out).2.1 < b.length
  | 0, n, out, h1, h2 => by omega
  | f + 1, n, out, h1, h2 => by
    unfold scn
    split
    · intro h; exact absurd rfl h
    · rename_i hn
      split
      · rename_i hok
        intro he
        have hb := nx_bounds (by omega) hok
        have hs := sk_bounds b b.length (nx b n).2.1 hb.2
        exact scn_err f _ _ hs.2 (by omega) he
      · intro he; exact ⟨rfl, by simp only; omega⟩

theorem scan_ord (b : List UInt8) (hb : b.length ≤ 65536) (he : (scan b).2.2 = 0) : Ord b 0 (scan b).1 ∧ (scan b).2.1 = b.length := by
  unfold scan at he ⊢
  rw [if_neg (by omega)] at he ⊢
  have hs := sk_bounds b b.length 0 (by omega)
  obtain ⟨ts, e1, e2, e3⟩ := scn_ord _ _ _ hs.2 (by omega) he
  rw [e1, e3]
  exact ⟨e2.mono (by omega), rfl⟩

theorem scan_err (b : List UInt8) (hb : b.length ≤ 65536) (he : (scan b).2.2 ≠ 0) : (scan b).1 = [] ∧ (scan b).2.1 < b.length := by
  unfold scan at he ⊢
  rw [if_neg (by omega)] at he ⊢
  have hs := sk_bounds b b.length 0 (by omega)
  exact scn_err _ _ _ hs.2 (by omega) he
end Go.Abs.T7
