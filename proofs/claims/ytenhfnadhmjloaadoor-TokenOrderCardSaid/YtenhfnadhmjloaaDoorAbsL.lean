/- append, as the machine runs it. -/
import Derived.Test.YtenhfnadhmjloaaDoorAbsK
set_option linter.all false
namespace Go.Abs
open Go Go.RowKit

variable {P : Program} {w : World} {g : Gh} {n : Nat}

def argElems : AV → Option (List AV)
  | .sl _ xs => some xs
  | .lit (.string s) => some (s.data.toList.map fun b => .lit (.int .u8 b.toNat))
  | _ => none

theorem flatC_fit {k : Nat} : ∀ {es : List AV}, Fit k es → (flatC es).length = es.length * k
  | [], _ => by simp [flatC]
  | x :: xs, hf => by
    have h1 := hf x (by simp)
    have h2 := flatC_fit (es := xs) (fun e he => hf e (by simp [he]))
    simp only [flatC, List.flatMap_cons, List.length_append, List.length_cons, Nat.add_mul, Nat.one_mul] at h2 ⊢
    rw [h2, h1.2]; omega

theorem flat_lits (l : List Value) (hl : ∀ v ∈ l, v.oneCell' = true) : flatC (l.map AV.lit) = l.map AV.lit := by
  induction l with
  | nil => rfl
  | cons v l ih =>
    simp only [flatC, List.map_cons, List.flatMap_cons] at ih ⊢
    rw [ih (fun v hv => hl v (by simp [hv]))]
    rfl

theorem Reps.lits : ∀ (l : List Value), Reps w g n (l.map AV.lit) l
  | [] => by simp [Reps]
  | v :: l => Reps.cons'.2 ⟨Rep.lit_iff.2 rfl, Reps.lits l⟩

/-- What is appended, as it is read. -/
theorem argElems_run {x : AV} {v : Value} {xs : List AV} {k : Nat} (hx : argElems x = some xs) (hr : Rep w g n x v) (hf : Fit k xs) :
    ∃ vs, (Builtin.lenOf v).run P w = .ok xs.length w ∧ (Builtin.firstCells k xs.length v).run P w = .ok vs.toArray w ∧ Reps w g n (flatC xs) vs ∧ vs.length = xs.length * k := by
  cases x <;> simp [argElems] at hx
  case lit u =>
    cases u <;> simp at hx
    case string s =>
      subst hx
      rw [Rep.lit_iff] at hr
      subst hr
      have hk : s.data.toList = [] ∨ k = 1 := by
        cases hs : s.data.toList with
        | nil => exact .inl rfl
        | cons b l =>
          right
          have := (hf (.lit (.int .u8 b.toNat)) (by simp [hs])).2
          simpa [AV.cells] using this.symm
      refine ⟨s.data.toList.map fun b => .int .u8 b.toNat, ?_, ?_, ?_, ?_⟩
      · simp [Builtin.lenOf]
      · simp only [Builtin.firstCells]
        have : s.extract 0 (List.map (fun b => AV.lit (Value.int IntKind.u8 ↑b.toNat)) s.data.toList).length = s := by
          simp
        rw [this]
        simp only [Sem.run_pure]
        congr 1
        exact Array.ext' (by simp)
      · have e1 : (s.data.toList.map fun b => AV.lit (Value.int .u8 b.toNat)) = (s.data.toList.map fun b => Value.int .u8 b.toNat).map AV.lit := by simp
        rw [e1, flat_lits _ (by simp [Value.oneCell'])]
        exact Reps.lits _
      · rcases hk with h | h
        · simp [h]
        · subst h; simp
  case sl c es =>
    subst hx
    simp only [Rep] at hr
    obtain ⟨base, len, cap, rfl, h1, h2, h3, h4, h5⟩ := hr
    subst h1
    cases base with
    | none =>
      have : es = [] := List.length_eq_zero_iff.1 (by have := h4 rfl; omega)
      subst this
      exact ⟨[], by simp [Builtin.lenOf], by simp [Builtin.firstCells], by simp [flatC, Reps], by simp⟩
    | some a =>
      obtain ⟨h6, k', h7⟩ := h5 a rfl
      obtain ⟨b, off, spot⟩ := a
      simp only at h6 h7
      subst h6
      obtain ⟨vs, h8, h9, h10⟩ := (h7.fit hf).flat (fun e he => (hf e he).1)
      refine ⟨vs, by simp [Builtin.lenOf], ?_, h10, h8⟩
      simp only [Builtin.firstCells]
      rw [← h8]
      exact loadCells_holds fun j u hj => (h9 j u hj).1

theorem append_in {t tx e ty : TypeId} {d : TypeDesc} {inf : TypeInfo} {b off sLen cap m : Nat} {v : Value} {vs : List Value} (ht : P.underlying t = some (.slice e)) (htx : P.underlying tx = some d) (hd : ∀ k, d ≠ .int k) (hi : P.info? e = some inf)
    (h1 : (Builtin.lenOf v).run P w = .ok m w) (h2 : (Builtin.firstCells inf.size m v).run P w = .ok vs.toArray w) (hroom : sLen + m ≤ cap)
    (h3 : ∀ v ∈ vs, v.oneCell' = true) (h4 : ∀ j, j < vs.length → (∃ u, w.cell? ⟨b, off + sLen * inf.size + j, none⟩ = some u) ∧ w.frozen? ⟨b, off + sLen * inf.size + j, none⟩ = false) :
    (Builtin.append_ #[t, tx] ty #[.slice (some ⟨b, off, none⟩) sLen cap, v]).run P w = .ok (.slice (some ⟨b, off, none⟩) (sLen + m) cap) (setRow w b (off + sLen * inf.size) vs) := by
  have hz : (d matches .int _) = false := by cases d <;> first | rfl | exact absurd rfl (hd _)
  have hst := run_storeCells (P := P) vs w b (off + sLen * inf.size) 0 h3 (by simpa using h4)
  simp only [Nat.add_zero] at hst
  simp [Builtin.append_, run_und ht, run_und htx, run_siz hi, h1, h2, hroom, addr_add, hst, hz]

theorem append_nil {t tx e ty : TypeId} {d : TypeDesc} {inf : TypeInfo} {v : Value} {vs : List Value} (ht : P.underlying t = some (.slice e)) (htx : P.underlying tx = some d) (hd : ∀ k, d ≠ .int k) (hi : P.info? e = some inf)
    (h1 : (Builtin.lenOf v).run P w = .ok 0 w) (h2 : (Builtin.firstCells inf.size 0 v).run P w = .ok vs.toArray w) :
    (Builtin.append_ #[t, tx] ty #[.slice none 0 0, v]).run P w = .ok (.slice none 0 0) w := by
  have hz : (d matches .int _) = false := by cases d <;> first | rfl | exact absurd rfl (hd _)
  simp [Builtin.append_, run_und ht, run_und htx, run_siz hi, h1, h2, hz]

theorem zeroCells_size (z : Array Value) (n : Nat) : (Builtin.zeroCells z n).size = n * z.size := by simp [Builtin.zeroCells]

theorem append_new {t tx e ty : TypeId} {d : TypeDesc} {inf : TypeInfo} {z : Value} {base : Option Addr} {sLen cap m : Nat} {v : Value} {us vs : List Value} (ht : P.underlying t = some (.slice e)) (htx : P.underlying tx = some d) (hd : ∀ k, d ≠ .int k) (hi : P.info? e = some inf) (hzero : inf.zero = some z)
    (h0' : (Builtin.firstCells inf.size sLen (.slice base sLen cap)).run P w.drew = .ok us.toArray w.drew)
    (h1 : (Builtin.lenOf v).run P w = .ok m w) (h2 : (Builtin.firstCells inf.size m v).run P w.drew = .ok vs.toArray w.drew) (hroom : cap < sLen + m)
    (hbound : (2 * (sLen + m) + 192) * inf.bytes ≤ 2 ^ 48) (hint : sLen + m < 2 ^ 62) :
    ∃ newCap, sLen + m ≤ newCap ∧ (Builtin.append_ #[t, tx] ty #[.slice base sLen cap, v]).run P w =
      .ok (.slice (some ⟨w.heap.size, 0, none⟩) (sLen + m) newCap) (w.drew.alloc (.cells (us ++ vs ++ (Builtin.zeroCells z.cells (newCap - (sLen + m))).toList).toArray e)) := by
  have hz : (d matches .int _) = false := by cases d <;> first | rfl | exact absurd rfl (hd _)
  let newCap := (Question.appendCap (sLen + m) cap e).cut (w.tape w.drawn (.appendCap (sLen + m) cap e))
  have hnc : sLen + m ≤ newCap := by simp only [newCap, Question.cut]; omega
  refine ⟨newCap, hnc, ?_⟩
  have hch : (choose (.appendCap (sLen + m) cap e)).run P w = .ok newCap w.drew := by
    rw [run_choose]; rfl
  have hns : ¬ Builtin.nextslicecap (sLen + m) cap * inf.bytes > 2 ^ 48 := by
    have h6 := nextslicecap_le hroom
    have h7 := Nat.mul_le_mul_right inf.bytes h6
    omega
  have hmx : ¬ ((sLen + m : Nat) : Int) > IntKind.i64.max := by simp [IntKind.max, IntKind.signed, IntKind.bits]; omega
  have hle : ¬ sLen + m ≤ cap := by omega
  have hmx' : ¬ (9223372036854775807 : Int) < (sLen : Int) + m := by omega
  have hmx2 : IntKind.i64.max = 9223372036854775807 := rfl
  have hns' : ¬ 281474976710656 < Builtin.nextslicecap (sLen + m) cap * inf.bytes := by simpa using hns
  simp [Builtin.append_, run_und ht, run_und htx, run_siz hi, run_inf hi, h1, h2, h0', hz, hle, hmx', hns', hch, zeroValue, hzero, newRow, hmx2, Question.forced, newCap]
  congr 2
  exact Array.ext' (by simp)

end Go.Abs
