/- Loops over lists. -/
import Derived.Test.YtloimemacnjpgaaGreatAbsK1
set_option linter.all false
namespace Go.Abs
open Go Go.RowKit

theorem lt_len {α : Type} {l : List α} {i : Nat} {a : α} (h : l[i]? = some a) : i < l.length := (List.getElem?_eq_some_iff.1 h).1

theorem Nxt.mk {γ : Type} {n i : Nat} {σ : ASt} {st : Nat → γ → ASt} {inv : Nat → γ → Prop} (hi : i < n) (g' : γ) (h : inv (i + 1) g') (hw : Weak σ (st (i + 1) g')) :
    ∃ y : Nat × γ, (y.1 ≤ n ∧ inv y.1 y.2) ∧ n - y.1 < n - i ∧ Weak σ (st y.1 y.2) := ⟨(i + 1, g'), ⟨by simp only; omega, h⟩, by simp only; omega, hw⟩

theorem LoopF.upto {E : Env} {c : ACode} {Q : AEx → ASt → Prop} {s t} {σ : ASt} {γ : Type} (n : Nat) (hn : n < 2 ^ 60) (st : Nat → γ → ASt) (inv : Nat → γ → Prop) (g0 : γ) (h0 : inv 0 g0) (hw : Weak σ (st 0 g0))
    (hs : ∀ i g, inv i g → i < n → decide ((i : Int) < (n : Int)) = true → IntKind.i64.wrap ((i : Int) + 1) = ((i + 1 : Nat) : Int) →
      awp E c (thenQ (fun σ'' => ∃ y : Nat × γ, (y.1 ≤ n ∧ inv y.1 y.2) ∧ n - y.1 < n - i ∧ Weak σ'' (st y.1 y.2)) Q) (st i g))
    (he : ∀ g, inv n g → decide ((n : Int) < (n : Int)) = false → awp E c (thenQ (fun σ'' => ∃ y : Nat × γ, (y.1 ≤ n ∧ inv y.1 y.2) ∧ n - y.1 < n - n ∧ Weak σ'' (st y.1 y.2)) Q) (st n g)) : LoopF E c Q s t σ := by
  refine LoopF.by (α := Nat × γ) (fun x => st x.1 x.2) (fun x => n - x.1) (fun x => x.1 ≤ n ∧ inv x.1 x.2) (0, g0) ⟨Nat.zero_le _, h0⟩ hw ?_
  rintro ⟨i, g⟩ ⟨h1, h3⟩
  simp only at h1 h3
  by_cases hi : i < n
  · exact hs i g h3 hi (by rw [decide_eq_true_eq]; omega) (by rw [wrap_i64] <;> omega)
  · obtain rfl : i = n := by omega
    exact he g h3 (by rw [decide_eq_false_iff_not]; omega)

theorem LoopF.list {E : Env} {c : ACode} {Q : AEx → ASt → Prop} {s t} {σ : ASt} {α γ : Type} (l : List α) (hl : l.length < 2 ^ 60) (st : Nat → γ → ASt) (inv : Nat → γ → Prop) (g0 : γ) (h0 : inv 0 g0) (hw : Weak σ (st 0 g0))
    (hs : ∀ i a g, l[i]? = some a → inv i g → i < l.length → decide ((i : Int) < (l.length : Int)) = true → IntKind.i64.wrap ((i : Int) + 1) = ((i + 1 : Nat) : Int) →
      awp E c (thenQ (fun σ'' => ∃ y : Nat × γ, (y.1 ≤ l.length ∧ inv y.1 y.2) ∧ l.length - y.1 < l.length - i ∧ Weak σ'' (st y.1 y.2)) Q) (st i g))
    (he : ∀ g, inv l.length g → decide ((l.length : Int) < (l.length : Int)) = false → awp E c (thenQ (fun σ'' => ∃ y : Nat × γ, (y.1 ≤ l.length ∧ inv y.1 y.2) ∧ l.length - y.1 < l.length - l.length ∧ Weak σ'' (st y.1 y.2)) Q) (st l.length g)) : LoopF E c Q s t σ :=
  LoopF.upto l.length hl st inv g0 h0 hw (fun i g h1 h2 h3 h4 => hs i (l[i]'h2) g (List.getElem?_eq_getElem h2) h1 h2 h3 h4) he

theorem LoopF.cut {E : Env} {c : ACode} {Q : AEx → ASt → Prop} {s t} {σ : ASt} (id : Nat) (P : ASt → Prop)
    (hl : ∀ Q' : AEx → ASt → Prop, (∀ σ, P σ → Q' (.exit id) σ) → (∀ σ, Q' .ret σ = Q .ret σ) → (∀ v σ, Q' (.panic v) σ = Q (.panic v) σ) → LoopF E c Q' .t .t σ)
    (ht : ∀ σ, P σ → Q (.exit id) σ) : LoopF E c Q s t σ := hl Q ht (fun _ => rfl) (fun _ _ => rfl)

theorem drop_len {α : Type} (l : List α) : l.drop l.length = [] := List.drop_eq_nil_of_le (Nat.le_refl _)
theorem take_len {α : Type} (l : List α) : l.take l.length = l := List.take_of_length_le (Nat.le_refl _)

theorem dnat :
    (∀ a b : Nat, ((a : Int) = (b : Int)) = (a = b)) ∧ (∀ a b : Nat, ((a : Int) < (b : Int)) = (a < b)) ∧ (∀ a b : Nat, ((a : Int) ≤ (b : Int)) = (a ≤ b)) ∧
    (∀ a n : Nat, ((a : Int) = (no_index (@OfNat.ofNat Int n instOfNat))) = (a = n)) ∧ (∀ a n : Nat, ((a : Int) < (no_index (@OfNat.ofNat Int n instOfNat))) = (a < n)) ∧ (∀ a n : Nat, ((a : Int) ≤ (no_index (@OfNat.ofNat Int n instOfNat))) = (a ≤ n)) ∧
    (∀ a n : Nat, ((no_index (@OfNat.ofNat Int n instOfNat)) < (a : Int)) = (n < a)) ∧ (∀ a n : Nat, ((no_index (@OfNat.ofNat Int n instOfNat)) ≤ (a : Int)) = (n ≤ a)) := by
  have h1 : ∀ a b : Nat, ((a : Int) = (b : Int)) = (a = b) := fun a b => by apply propext; omega
  have h2 : ∀ a b : Nat, ((a : Int) < (b : Int)) = (a < b) := fun a b => by apply propext; omega
  have h3 : ∀ a b : Nat, ((a : Int) ≤ (b : Int)) = (a ≤ b) := fun a b => by apply propext; omega
  exact ⟨h1, h2, h3, fun a n => h1 a n, fun a n => h2 a n, fun a n => h3 a n, fun a n => h2 n a, fun a n => h3 n a⟩

theorem Byte.at {s : ByteArray} {n : Nat} {F : UInt8 → Prop} {t : Tag F} {c : UInt8} (h : s.data.toList[n]? = some c) (hF : F c) : Byte s n F t := fun e he => by
  rw [bytes_get, h] at he
  cases he
  exact hF
end Go.Abs
