/- What all seats' texts share: values, lists, objects. -/
import Derived.Test.YtloimemacnjpgaaGreatAbsB1
import Derived.Test.YtloimemacnjpgaaGreatAbsZ
set_option linter.all false
namespace Go.Abs
open Go Go.RowKit
set_option linter.unusedSimpArgs false
set_option maxRecDepth 100000

abbrev u8v (c : UInt8) : AV := .lit (.int .u8 c.toNat)
abbrev byA (b : List UInt8) : List AV := b.map fun c => AV.lit (.int .u8 c.toNat)
abbrev i64 (n : Int) : AV := .lit (.int .i64 n)
abbrev boolv (b : Bool) : AV := .lit (.bool b)
/-- The character at a place; 0 behind the end. -/
def pk (b : List UInt8) (i : Nat) : UInt8 := b[i]?.getD 0
theorem wrap_u8 (d : UInt8) : IntKind.u8.wrap (d.toNat : Int) = (d.toNat : Int) := by
  have := d.toNat_lt
  simp [IntKind.wrap, IntKind.signed, IntKind.bits]
  omega
theorem or_u8 (c : UInt8) : ibits .or .u8 (c.toNat : Int) 32 = ((c ||| 32).toNat : Int) := by
  have h1 : (BitVec.ofInt 8 (c.toNat : Int)) = c.toBitVec := by
    apply BitVec.eq_of_toNat_eq
    simp
  have h2 : (BitVec.ofInt 8 32) = (32 : UInt8).toBitVec := by decide
  show IntKind.u8.wrap (((BitVec.ofInt 8 (c.toNat : Int)) ||| (BitVec.ofInt 8 32)).toNat : Int) = _
  rw [h1, h2]
  exact wrap_u8 (c ||| 32)
theorem wrap_i64 (n : Int) (h0 : -9223372036854775808 ≤ n) (h : n ≤ 9223372036854775807) : IntKind.i64.wrap n = n := by
  simp [IntKind.wrap, IntKind.signed, IntKind.bits]
  omega
/-- Is a character this one? -/
def isC (n : Int) (c : UInt8) : Bool := decide ((c.toNat : Int) = n)
theorem isC_zero {n : Int} (h : n ≠ 0) : isC n 0 = false := by simp [isC]; omega
theorem isC_eq {n : Nat} {c : UInt8} (hn : n < 256) : isC n c = decide (c = UInt8.ofNat n) := by
  unfold isC
  rw [decide_eq_decide]
  constructor
  · intro h
    apply UInt8.toNat_inj.1
    rw [UInt8.toNat_ofNat_of_lt' (by simpa using hn)]
    omega
  · rintro rfl
    rw [UInt8.toNat_ofNat_of_lt' (by simpa using hn)]
theorem last_obj (h : List AObj) (o : AObj) : (h ++ [o])[h.length]? = some o := by simp
theorem bytes_get (s : ByteArray) (i : Nat) : s[i]? = s.data.toList[i]? := by
  by_cases hi : i < s.size
  · rw [getElem?_pos s i hi]
    have : i < s.data.toList.length := by simpa using hi
    rw [List.getElem?_eq_getElem this]
    simp
    rfl
  · rw [getElem?_neg s i hi, List.getElem?_eq_none (by simpa using hi)]
theorem all_u8 {p : UInt8 → Bool} (h : (List.range 256).all (fun n => p (UInt8.ofNat n)) = true) (c : UInt8) : p c = true := by
  rw [List.all_eq_true] at h
  have := h c.toNat (by simp; exact c.toNat_lt)
  simpa using this
theorem pk_get {b : List UInt8} {n : Nat} {c : UInt8} (h : b[n]? = some c) : pk b n = c := by simp [pk, h]
theorem pk_none {b : List UInt8} {n : Nat} (h : b.length ≤ n) : pk b n = 0 := by simp [pk, List.getElem?_eq_none h]
def InR (n : Int) : Prop := -9223372036854775808 ≤ n ∧ n ≤ 9223372036854775807
abbrev str (s : ByteArray) : AV := .lit (.string s)
theorem map_get {α : Type} (f : α → AV) (l : List α) (i : Nat) (x : α) (h : l[i]? = some x) : (l.map f)[i]? = some (f x) := by rw [List.getElem?_map, h]; rfl
/-- Every element of a list of records of k cells. -/
theorem Elem.recs {es : List AV} {n : Nat} {P K : AV → Prop} {t' : ∀ e, Tag (K e)} {t : Tag fun e => Need (P e) (K e) (t' e)} {a : AV} (h : es[n]? = some a) (hp : P a) (hk : K a) : Elem es n (fun e => Need (P e) (K e) (t' e)) t := fun e he => by
  have := Option.some.inj (h.symm.trans he)
  subst this
  exact ⟨hp, hk⟩
theorem ElemT.recs {α : Type} {es : List α} {n : Nat} {P K : α → Prop} {t' : ∀ e, Tag (K e)} {t : Tag fun e => Need (P e) (K e) (t' e)} {a : α} (h : es[n]? = some a) (hp : P a) (hk : K a) : ElemT es n (fun e => Need (P e) (K e) (t' e)) t := fun e he => by
  have := Option.some.inj (h.symm.trans he)
  subst this
  exact ⟨hp, hk⟩
theorem app1J (h J : List AObj) (o : AObj) : (h ++ J) ++ [o] = h ++ (J ++ [o]) := by simp
theorem getJ (h J : List AObj) (o : AObj) : (h ++ J ++ [o])[(h ++ J).length]? = some o := by simp
theorem setJ (h J : List AObj) (o o' : AObj) : (h ++ J ++ [o]).set (h ++ J).length o' = h ++ J ++ [o'] := by simp
theorem drop_get {α : Type} {l : List α} {i : Nat} {x : α} (h : l[i]? = some x) : l.drop i = x :: l.drop (i + 1) := by
  have hi := (List.getElem?_eq_some_iff.1 h)
  obtain ⟨hlt, he⟩ := hi
  rw [List.drop_eq_getElem_cons hlt, he]
theorem sum_append (l l' : List Nat) : (l ++ l').sum = l.sum + l'.sum := by simp
/-- The place of the first of which something holds; -1: of none. -/
def idx {α : Type} (p : α → Bool) : List α → Nat → Int
  | [], _ => -1
  | x :: l, i => if p x then i else idx p l (i + 1)
theorem idx_any {α : Type} (p : α → Bool) : ∀ (l : List α) (i : Nat), decide (0 ≤ idx p l i) = l.any p
  | [], i => by simp [idx]
  | x :: l, i => by
    unfold idx
    cases hx : p x
    · simp only [Bool.false_eq_true, if_false, List.any_cons, hx, Bool.false_or]; exact idx_any p l (i + 1)
    · simp [hx]
/-- Pair by pair. -/
def all2 {α : Type} (p : α → α → Bool) : List α → List α → Bool
  | [], [] => true
  | a :: l, b :: r => p a b && all2 p l r
  | _, _ => false
theorem all2_len {α : Type} {p : α → α → Bool} : ∀ {l r : List α}, l.length ≠ r.length → all2 p l r = false
  | [], [], h => by simp at h
  | [], _ :: _, _ => rfl
  | _ :: _, [], _ => rfl
  | a :: l, b :: r, h => by
    simp only [List.length_cons, ne_eq, Nat.add_right_cancel_iff] at h
    simp only [all2, all2_len h, Bool.and_false]
theorem Fin.sameJ {h h' : List AObj} {J : List AObj} {v : AV} {Q : ARes → List AObj → Prop} {t} (hc : Closed h) (hu : AV.under h.length v = true) (hq : Q (.ret v) h) (he : h' = h ++ J) : Fin h' h.length v Q t := by
  subst he
  exact Fin.same hc hu hq
theorem asc3 (h J : List AObj) (a b : AObj) : h ++ J ++ [a] ++ [b] = h ++ (J ++ [a] ++ [b]) := by simp
theorem asc2 (h : List AObj) (a b : AObj) : h ++ [a] ++ [b] = h ++ [a, b] := by simp
theorem getK (h J : List AObj) (o o' : AObj) : (h ++ J ++ [o] ++ [o'])[(h ++ J).length]? = some o := by
  rw [List.append_assoc]; simp
theorem getK1 (h J : List AObj) (o o' : AObj) : (h ++ J ++ [o] ++ [o'])[(h ++ J ++ [o]).length]? = some o' := by simp
theorem setK1 (h J : List AObj) (o o' x : AObj) : (h ++ J ++ [o] ++ [o']).set (h ++ J ++ [o]).length x = h ++ J ++ [o] ++ [x] := by simp
theorem geta (h : List AObj) (o o' : AObj) : (h ++ [o] ++ [o'])[h.length]? = some o := by rw [List.append_assoc]; simp
theorem fitb (l : List UInt8) : Fit 1 (byA l) := by
  intro e he; obtain ⟨c, _, rfl⟩ := List.mem_map.1 he; exact ⟨rfl, rfl⟩
theorem oneb (l : List UInt8) : allOne (byA l) := by
  intro e he; obtain ⟨c, _, rfl⟩ := List.mem_map.1 he; rfl
theorem bitesOf_byA : ∀ (b : List UInt8), bitesOf (byA b) = some b
  | [] => rfl
  | c :: b => by
    have := bitesOf_byA b
    simp only [byA] at this
    simp [bitesOf, this]
theorem and15 (c : UInt8) : ibits .and .u8 (c.toNat : Int) 15 = ((c.toNat % 16 : Nat) : Int) := by
  have := all_u8 (p := fun c => decide (ibits .and .u8 (c.toNat : Int) 15 = ((c.toNat % 16 : Nat) : Int))) (by decide +kernel) c
  exact of_decide_eq_true this
theorem shr4 (c : UInt8) : (c.toNat : Int).fdiv (2 ^ (min (4 : Int).toNat IntKind.u8.bits)) = ((c.toNat / 16 : Nat) : Int) := by
  have := all_u8 (p := fun c => decide ((c.toNat : Int).fdiv (2 ^ (min (4 : Int).toNat IntKind.u8.bits)) = ((c.toNat / 16 : Nat) : Int))) (by decide +kernel) c
  exact of_decide_eq_true this
theorem quo16 (c : UInt8) : IntKind.u8.wrap ((c.toNat : Int).tdiv 16) = ((c.toNat / 16 : Nat) : Int) := by
  have := all_u8 (p := fun c => decide (IntKind.u8.wrap ((c.toNat : Int).tdiv 16) = ((c.toNat / 16 : Nat) : Int))) (by decide +kernel) c
  exact of_decide_eq_true this
theorem rem16 (c : UInt8) : (c.toNat : Int).tmod 16 = ((c.toNat % 16 : Nat) : Int) := by
  have := all_u8 (p := fun c => decide ((c.toNat : Int).tmod 16 = ((c.toNat % 16 : Nat) : Int))) (by decide +kernel) c
  exact of_decide_eq_true this
theorem ba_append (a b : List UInt8) : (⟨a.toArray⟩ : ByteArray) ++ ⟨b.toArray⟩ = ⟨(a ++ b).toArray⟩ := by
  apply ByteArray.ext
  simp [ByteArray.data_append]
theorem get0 (h : List AObj) (a : AObj) (l : List AObj) : (h ++ a :: l)[h.length]? = some a := by simp
theorem get0J (h : List AObj) (a o : AObj) (l : List AObj) : (h ++ a :: l ++ [o])[h.length]? = some a := by
  rw [List.append_assoc]; simp
/-- Texts as values. -/
abbrev strs (l : List (List UInt8)) : List AV := l.map fun x => str ⟨x.toArray⟩
theorem fits (l : List (List UInt8)) : Fit 1 (strs l) := by
  intro e he; obtain ⟨c, _, rfl⟩ := List.mem_map.1 he; exact ⟨rfl, rfl⟩
theorem ones (l : List (List UInt8)) : allOne (strs l) := by
  intro e he; obtain ⟨c, _, rfl⟩ := List.mem_map.1 he; rfl
theorem take_snoc {α β : Type} (f : α → β) (l : List α) (i : Nat) (x : α) (h : l[i]? = some x) : (l.take (i + 1)).map f = (l.take i).map f ++ [f x] := by
  obtain ⟨hi, he⟩ := List.getElem?_eq_some_iff.1 h
  rw [List.take_succ_eq_append_getElem hi, he]; simp
theorem closed_set {h : List AObj} {s : Nat} {l : List AV} (hc : Closed h) (hl : unders h.length l = true) : Closed (h.set s (.cells l)) := by
  intro l' hl'
  rw [List.length_set]
  rcases List.mem_or_eq_of_mem_set hl' with h1 | h1
  · exact hc l' h1
  · cases h1; exact hl
theorem hset {h : List AObj} {id : Nat} (hid : id < h.length) (X : AObj) : (h.set id X)[id]? = some X := List.getElem?_set_self hid
theorem hset2 (h : List AObj) (id : Nat) (X Y : AObj) : (h.set id X).set id Y = h.set id Y := List.set_set ..
theorem flat_snoc2 (l : List (List UInt8)) (i : Nat) (x : List UInt8) (h : l[i]? = some x) : (l.take (i + 1)).flatten = (l.take i).flatten ++ x := by
  obtain ⟨hi, he⟩ := List.getElem?_eq_some_iff.1 h
  rw [List.take_succ_eq_append_getElem hi, he]; simp
theorem flat_take_le (l : List (List UInt8)) (i : Nat) : (l.take i).flatten.length ≤ l.flatten.length := by
  have : l.flatten = (l.take i).flatten ++ (l.drop i).flatten := by rw [← List.flatten_append, List.take_append_drop]
  rw [this]; simp
theorem szl (l : List UInt8) : (⟨l.toArray⟩ : ByteArray).size = l.length := rfl
theorem each_u8 {p : UInt8 → Prop} (h : ∀ n : _root_.Fin 256, p (UInt8.ofNat n.val)) (c : UInt8) : p c := by
  have := h ⟨c.toNat, c.toNat_lt⟩
  simpa using this
theorem bytes_inj {a b : ByteArray} (h : a.data.toList = b.data.toList) : a = b := by
  apply ByteArray.ext
  exact Array.ext' h
theorem all2_iff {α : Type} {p : α → α → Bool} : ∀ {l r : List α}, (∀ a, a ∈ l → ∀ b, p a b = true ↔ a = b) → (all2 p l r = true ↔ l = r)
  | [], [], _ => by simp [all2]
  | [], _ :: _, _ => by simp [all2]
  | _ :: _, [], _ => by simp [all2]
  | a :: l, b :: r, h => by
    have h1 := h a (List.mem_cons_self ..) b
    have h2 := all2_iff (l := l) (r := r) fun x hx => h x (List.mem_cons_of_mem _ hx)
    simp only [all2, Bool.and_eq_true, h1, h2, List.cons.injEq]
end Go.Abs
