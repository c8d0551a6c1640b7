/- What all seats' texts share: values, lists, objects. -/
import Derived.Test.YtloimemacnjpgaaGreatAbsB1
import Derived.Test.YtloimemacnjpgaaGreatAbsZ
set_option linter.all false
namespace Go.Abs
open Go Go.RowKit
set_option linter.unusedSimpArgs false
set_option maxRecDepth 100000

abbrev u8v (c : UInt8) : AV := .lit (.int .u8 c.toNat)
abbrev byA (b : List UInt8) : List AV := b.map fun c => AV.lit (.int .u8 c.toNat)
abbrev i64 (n : Int) : AV := .lit (.int .i64 n)
abbrev boolv (b : Bool) : AV := .lit (.bool b)
theorem wrap_i64 (n : Int) (h0 : -9223372036854775808 ≤ n) (h : n ≤ 9223372036854775807) : IntKind.i64.wrap n = n := by
  simp [IntKind.wrap, IntKind.signed, IntKind.bits]
  omega
def isC (n : Int) (c : UInt8) : Bool := decide ((c.toNat : Int) = n)
theorem bytes_get (s : ByteArray) (i : Nat) : s[i]? = s.data.toList[i]? := by
  by_cases hi : i < s.size
  · rw [getElem?_pos s i hi]
    have : i < s.data.toList.length := by simpa using hi
    rw [List.getElem?_eq_getElem this]
    simp
    rfl
  · rw [getElem?_neg s i hi, List.getElem?_eq_none (by simpa using hi)]
def InR (n : Int) : Prop := -9223372036854775808 ≤ n ∧ n ≤ 9223372036854775807
abbrev str (s : ByteArray) : AV := .lit (.string s)
theorem map_get {α : Type} (f : α → AV) (l : List α) (i : Nat) (x : α) (h : l[i]? = some x) : (l.map f)[i]? = some (f x) := by rw [List.getElem?_map, h]; rfl
theorem Elem.recs {es : List AV} {n : Nat} {P K : AV → Prop} {t' : ∀ e, Tag (K e)} {t : Tag fun e => Need (P e) (K e) (t' e)} {a : AV} (h : es[n]? = some a) (hp : P a) (hk : K a) : Elem es n (fun e => Need (P e) (K e) (t' e)) t := fun e he => by
  have := Option.some.inj (h.symm.trans he)
  subst this
  exact ⟨hp, hk⟩
theorem ElemT.recs {α : Type} {es : List α} {n : Nat} {P K : α → Prop} {t' : ∀ e, Tag (K e)} {t : Tag fun e => Need (P e) (K e) (t' e)} {a : α} (h : es[n]? = some a) (hp : P a) (hk : K a) : ElemT es n (fun e => Need (P e) (K e) (t' e)) t := fun e he => by
  have := Option.some.inj (h.symm.trans he)
  subst this
  exact ⟨hp, hk⟩
theorem getJ (h J : List AObj) (o : AObj) : (h ++ J ++ [o])[(h ++ J).length]? = some o := by simp
theorem setJ (h J : List AObj) (o o' : AObj) : (h ++ J ++ [o]).set (h ++ J).length o' = h ++ J ++ [o'] := by simp
theorem drop_get {α : Type} {l : List α} {i : Nat} {x : α} (h : l[i]? = some x) : l.drop i = x :: l.drop (i + 1) := by
  have hi := (List.getElem?_eq_some_iff.1 h)
  obtain ⟨hlt, he⟩ := hi
  rw [List.drop_eq_getElem_cons hlt, he]
def idx {α : Type} (p : α → Bool) : List α → Nat → Int
  | [], _ => -1
  | x :: l, i => if p x then i else idx p l (i + 1)
theorem idx_any {α : Type} (p : α → Bool) : ∀ (l : List α) (i : Nat), decide (0 ≤ idx p l i) = l.any p
  | [], i => by simp [idx]
  | x :: l, i => by
    unfold idx
    cases hx : p x
    · simp only [Bool.false_eq_true, if_false, List.any_cons, hx, Bool.false_or]; exact idx_any p l (i + 1)
    · simp [hx]
def all2 {α : Type} (p : α → α → Bool) : List α → List α → Bool
  | [], [] => true
  | a :: l, b :: r => p a b && all2 p l r
  | _, _ => false
theorem all2_len {α : Type} {p : α → α → Bool} : ∀ {l r : List α}, l.length ≠ r.length → all2 p l r = false
  | [], [], h => by simp at h
  | [], _ :: _, _ => rfl
  | _ :: _, [], _ => rfl
  | a :: l, b :: r, h => by
    simp only [List.length_cons, ne_eq, Nat.add_right_cancel_iff] at h
    simp only [all2, all2_len h, Bool.and_false]
theorem Fin.sameJ {h h' : List AObj} {J : List AObj} {v : AV} {Q : ARes → List AObj → Prop} {t} (hc : Closed h) (hu : AV.under h.length v = true) (hq : Q (.ret v) h) (he : h' = h ++ J) : Fin h' h.length v Q t := by
  subst he
  exact Fin.same hc hu hq
theorem asc3 (h J : List AObj) (a b : AObj) : h ++ J ++ [a] ++ [b] = h ++ (J ++ [a] ++ [b]) := by simp
theorem getK (h J : List AObj) (o o' : AObj) : (h ++ J ++ [o] ++ [o'])[(h ++ J).length]? = some o := by
  rw [List.append_assoc]; simp
theorem getK1 (h J : List AObj) (o o' : AObj) : (h ++ J ++ [o] ++ [o'])[(h ++ J ++ [o]).length]? = some o' := by simp
theorem setK1 (h J : List AObj) (o o' x : AObj) : (h ++ J ++ [o] ++ [o']).set (h ++ J ++ [o]).length x = h ++ J ++ [o] ++ [x] := by simp
theorem geta (h : List AObj) (o o' : AObj) : (h ++ [o] ++ [o'])[h.length]? = some o := by rw [List.append_assoc]; simp
abbrev strs (l : List (List UInt8)) : List AV := l.map fun x => str ⟨x.toArray⟩
theorem fits (l : List (List UInt8)) : Fit 1 (strs l) := by
  intro e he; obtain ⟨c, _, rfl⟩ := List.mem_map.1 he; exact ⟨rfl, rfl⟩
theorem ones (l : List (List UInt8)) : allOne (strs l) := by
  intro e he; obtain ⟨c, _, rfl⟩ := List.mem_map.1 he; rfl
theorem hset {h : List AObj} {id : Nat} (hid : id < h.length) (X : AObj) : (h.set id X)[id]? = some X := List.getElem?_set_self hid
theorem szl (l : List UInt8) : (⟨l.toArray⟩ : ByteArray).size = l.length := rfl
theorem all2_iff {α : Type} {p : α → α → Bool} : ∀ {l r : List α}, (∀ a, a ∈ l → ∀ b, p a b = true ↔ a = b) → (all2 p l r = true ↔ l = r)
  | [], [], _ => by simp [all2]
  | [], _ :: _, _ => by simp [all2]
  | _ :: _, [], _ => by simp [all2]
  | a :: l, b :: r, h => by
    have h1 := h a (List.mem_cons_self ..) b
    have h2 := all2_iff (l := l) (r := r) fun x hx => h x (List.mem_cons_of_mem _ hx)
    simp only [all2, Bool.and_eq_true, h1, h2, List.cons.injEq]
end Go.Abs
