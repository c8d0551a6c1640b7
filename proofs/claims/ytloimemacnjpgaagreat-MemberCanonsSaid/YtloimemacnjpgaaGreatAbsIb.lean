/- bytes.IndexByte's entry. -/
import Derived.Test.YtloimemacnjpgaaGreatAbsK2
import Derived.Laws.StandIn
set_option linter.all false
namespace Go.Abs
open Go Go.RowKit

theorem loadBytes_run {P : Program} {w : World} {b : Nat} : ∀ (l : List UInt8) (off : Nat) (acc : ByteArray), (∀ j c, l[j]? = some c → w.cell? ⟨b, off + j, none⟩ = some (.int .u8 c.toNat)) →
    (Extern.Bytes.loadBytes ⟨b, off, none⟩ l.length acc).run P w = .ok (acc ++ ⟨l.toArray⟩) w
  | [], off, acc, _ => by
    simp only [List.length_nil, Extern.Bytes.loadBytes, Sem.run_pure]
    congr 1
    apply ByteArray.ext
    simp [ByteArray.data_append]
  | c :: l, off, acc, h => by
    have h0 := h 0 c rfl
    have ih := loadBytes_run (P := P) l (off + 1) (acc.push c) fun j d hj => by
      have := h (j + 1) d (by simpa using hj)
      rw [show off + 1 + j = off + (j + 1) by omega]; exact this
    have hl : (load ⟨b, off, none⟩).run P w = .ok (.int .u8 c.toNat) w := by
      have : w.cell? ⟨b, off, none⟩ = some (.int .u8 c.toNat) := by simpa using h0
      rw [run_load, this]
    have hadd : (⟨b, off, none⟩ : Addr).add 1 = ⟨b, off + 1, none⟩ := addr_add _ _ _
    have hc : (c.toNat : Int).toNat.toUInt8 = c := by simp
    simp only [List.length_cons, Extern.Bytes.loadBytes, Sem.run_bind, hl, Result.andThen_ok, hadd, hc, ih]
    congr 1
    apply ByteArray.ext
    simp [ByteArray.data_append, ByteArray.push]

theorem find_idx (l : List UInt8) (c : UInt8) : (match (List.range (⟨l.toArray⟩ : ByteArray).size).find? (fun i => (⟨l.toArray⟩ : ByteArray)[i]! == c) with
    | some i => (i : Int) | none => -1) = idx (fun x => decide (x = c)) l 0 := by
  have key : ∀ (r : List UInt8) (k : Nat), l.drop k = r → (match (List.range' k r.length).find? (fun i => (⟨l.toArray⟩ : ByteArray)[i]! == c) with
      | some i => (i : Int) | none => -1) = idx (fun x => decide (x = c)) r k := by
    intro r
    induction r with
    | nil => intro k _; rfl
    | cons a r ih =>
      intro k hk
      have hkl : k < l.length := by
        rcases Nat.lt_or_ge k l.length with h | h
        · exact h
        · rw [List.drop_eq_nil_of_le h] at hk; cases hk
      rw [List.drop_eq_getElem_cons hkl] at hk
      injection hk with h1 h2
      have hget : (⟨l.toArray⟩ : ByteArray)[k]! = a := by
        rw [← h1, getElem!_pos (⟨l.toArray⟩ : ByteArray) k (by simpa [ByteArray.size] using hkl)]
        rfl
      simp only [List.length_cons, List.range'_succ, List.find?_cons, hget]
      unfold idx
      by_cases hac : a = c
      · subst hac; simp
      · have hb : (a == c) = false := by simpa using hac
        rw [hb]
        simp only [hac, decide_false, Bool.false_eq_true, if_false]
        exact ih (k + 1) h2
  have := key l 0 rfl
  rw [← this, List.range_eq_range']
  rfl

theorem indexByte_ev {E : Env} {f : FuncId} {fn : Func} (hf : E.P.funcs[f]? = some fn) (hn : (fn.name == "runtime.NumGoroutine") = false) (hb : fn.body.isNone = true) (hx : Extern.findNext fn = none) (he : Extern.find fn = some Extern.BytealgIndexByte.indexByte)
    (l : List UInt8) (c : UInt8) (h : List AObj) : EvR E f [.sl .unk (byA l), u8v c] h (i64 (idx (fun x => decide (x = c)) l 0)) := by
  intro w g vs hg hgl hh ha
  have hr := args_get ha
  obtain ⟨v0, rest, e0, h0, hr⟩ := Reps.cons.1 hr
  obtain ⟨v1, rest', e1, h1, hr⟩ := Reps.cons.1 hr
  rw [Reps.nil] at hr
  subst hr
  subst e1
  have hvs : vs = #[v0, v1] := Array.ext' (by rw [e0])
  subst hvs
  rw [Rep.lit_iff] at h1
  subst h1
  simp only [Rep] at h0
  obtain ⟨base, len, cap, rfl, hl, hlc, _, hnil, hsome⟩ := h0
  have hbytes : (Extern.Bytes.bytesOf (.slice base len cap)).run E.P w = .ok ⟨l.toArray⟩ w := by
    cases base with
    | none =>
      have : l = [] := by
        have := hnil rfl
        have : l.length = 0 := by simp at hl; omega
        exact List.length_eq_zero_iff.1 this
      subst this
      rfl
    | some a =>
      obtain ⟨hsp, k, hE⟩ := hsome a rfl
      have hlen : len = l.length := by simpa using hl.symm
      rcases Nat.eq_zero_or_pos l.length with hz | hz
      · have : l = [] := List.length_eq_zero_iff.1 hz
        subst this
        simp at hlen
        subst hlen
        simp only [Extern.Bytes.bytesOf, Extern.Bytes.loadBytes, Sem.run_pure]
        rfl
      have hs0 := hsp (by omega)
      obtain ⟨b, off, spot⟩ := a
      simp only at hs0 hE
      subst hs0
      have hk : k = 1 := by
        obtain ⟨c0, hc0⟩ : ∃ c0, l[0]? = some c0 := ⟨_, List.getElem?_eq_getElem hz⟩
        obtain ⟨v, q1, q2, _⟩ := hE.get 0 (.lit (.int .u8 c0.toNat)) (by simp [byA, hc0])
        rw [Rep.lit_iff] at q1
        subst q1
        simpa [Value.cells] using q2.symm
      subst hk
      have := loadBytes_run (P := E.P) (w := w) (b := b) l off .empty fun j d hj => by
        obtain ⟨v, q1, q2, q3⟩ := hE.get j (.lit (.int .u8 d.toNat)) (by simp [byA, hj])
        rw [Rep.lit_iff] at q1
        subst q1
        have := (q3 0 (.int .u8 d.toNat) (by simp [Value.cells])).1
        simpa using this
      rw [hlen]
      simp only [Extern.Bytes.bytesOf, this]
      congr 1
  refine .inr ⟨.int .i64 (idx (fun x => decide (x = c)) l 0), w, ?_, .ret (i64 (idx (fun x => decide (x = c)) l 0)), h, g, ⟨rfl, rfl⟩, ⟨_, rfl, Rep.lit_iff.2 rfl⟩, hg, hgl, hh, Stable.refl _ _ _, Nat.le_refl _⟩
  rw [run_callFunc_indexByte hf hn hb hx he]
  have hi := find_idx l c
  have hc : (c.toNat : Int).toNat.toUInt8 = c := by simp
  have e : Extern.BytealgIndexByte.indexByte #[.slice base len cap, .int .u8 c.toNat] = (do
      let b ← Extern.Bytes.bytesOf (.slice base len cap)
      let c ← Extern.Bytes.asByte (.int .u8 c.toNat)
      match (List.range b.size).find? fun i => b[i]! == c with
      | some i => pure (goInt i)
      | none => pure (goInt (-1))) := rfl
  rw [e]
  simp only [Extern.Bytes.asByte, Sem.run_bind, hbytes, Result.andThen_ok, Sem.run_pure, hc]
  rw [← hi]
  cases hfnd : (List.range (⟨l.toArray⟩ : ByteArray).size).find? (fun i => (⟨l.toArray⟩ : ByteArray)[i]! == c) with
  | none => rfl
  | some i => rfl
end Go.Abs
