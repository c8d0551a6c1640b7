/- The signs, and the token at a place. -/
import Derived.Test.YtenhfnadhmjloaaDoorT7I
set_option linter.all false
namespace Go.Abs.T7
open Go Go.Abs Go.Proofs
set_option linter.unusedSimpArgs false

def sgs : List ByteArray := [⟨#[58, 58, 61]⟩, ⟨#[46, 46, 46]⟩, ⟨#[46, 46]⟩, ⟨#[123]⟩, ⟨#[125]⟩, ⟨#[40]⟩, ⟨#[41]⟩, ⟨#[91]⟩, ⟨#[93]⟩, ⟨#[44]⟩, ⟨#[59]⟩, ⟨#[124]⟩, ⟨#[94]⟩, ⟨#[61]⟩, ⟨#[45]⟩]
def sgL : List AV := sgs.map fun x => .lit (.string x)

theorem get0 (h : List AObj) (a : AObj) (l : List AObj) : (h ++ a :: l)[h.length]? = some a := by simp
theorem get1 (h : List AObj) (a b : AObj) (l : List AObj) : (h ++ a :: b :: l)[h.length + 1]? = some b := by
  rw [List.getElem?_append_right (by omega)]; simp
theorem sget0 (h : List AObj) (s : Nat) (x a : AObj) (l : List AObj) : (h.set s x ++ a :: l)[h.length]? = some a := by
  rw [List.getElem?_append_right (by simp)]; simp
theorem sget1 (h : List AObj) (s : Nat) (x a b : AObj) (l : List AObj) : (h.set s x ++ a :: b :: l)[h.length + 1]? = some b := by
  rw [List.getElem?_append_right (by simp)]; simp
theorem set0 (h : List AObj) (a y : AObj) (l : List AObj) : (h ++ a :: l).set h.length y = h ++ y :: l := by
  rw [List.set_append_right _ _ (Nat.le_refl _)]; simp
theorem set1 (h : List AObj) (a b y : AObj) (l : List AObj) : (h ++ a :: b :: l).set (h.length + 1) y = h ++ a :: y :: l := by
  rw [List.set_append_right _ _ (by omega)]; simp
theorem sset0 (h : List AObj) (s : Nat) (x a y : AObj) (l : List AObj) : (h.set s x ++ a :: l).set h.length y = h.set s x ++ y :: l := by
  rw [List.set_append_right _ _ (by simp)]; simp
theorem sset1 (h : List AObj) (s : Nat) (x a b y : AObj) (l : List AObj) : (h.set s x ++ a :: b :: l).set (h.length + 1) y = h.set s x ++ a :: y :: l := by
  rw [List.set_append_right _ _ (by simp)]; simp
theorem len1 (h : List AObj) (a : AObj) : (h ++ [a]).length = h.length + 1 := by simp
theorem app1 (h : List AObj) (a b : AObj) : h ++ [a] ++ [b] = h ++ [a, b] := by simp

theorem signs_ev (h : List AObj) : EvR E0 29 [] h (.agg sgL) := by
  refine ev_of (fn := Tryd.f29) (hs := []) Tryd.func29 c29 (by simp) fun hcl => ?_
  simp only [ac29, get0, set0, ne_eq, not_false_eq_true, Option.map_some, Option.map_none, List.map_cons, List.map_nil, Bool.not_true, Bool.not_false, decide_true, decide_false, List.getElem?_cons_zero, List.getElem?_cons_succ, ↓aw1, ↓aw2, ↓aw17, aw3, aw4, aw5, aw6, aw7, aw8, aw9, aw10, aw11, aw12, aw13, aw14, aw15, aw16, Nat.reduceLeDiff, if_true, if_false, Nat.reduceEqDiff, Nat.reduceAdd, beq_self_eq_true, beq_true, beq_false, Bool.false_eq_true]
  exact Fin.same hcl rfl ⟨rfl, rfl⟩

def numt (l : List UInt8) (n : Nat) : Int × Nat × Bool :=
  match Lib.atoiAll l with
  | .ok v => (v, n, !decide (v = -9223372036854775808))
  | .range => (Lib.atoiSat l, n, false)
  | _ => (0, n, false)

def nt (b : List UInt8) (at_ : Nat) : Int × Nat × Bool :=
  let p := fun k => pk b (at_ + k)
  let n := dg p (b.length + 2) (fst p)
  if (isC 48 (p (fst p)) && (decide (1 < n) || decide (0 < fst p))) || isLet (p n) then (0, 0, false)
  else numt ((b.drop at_).take n) n

theorem num_eq (b : List UInt8) (at_ : Nat) : num b at_ = .tup [i64 (nt b at_).1, i64 (nt b at_).2.1, boolv (nt b at_).2.2] := by
  unfold num nt
  dsimp only
  split
  · rfl
  · unfold numv numt
    generalize Lib.atoiAll _ = r
    cases r <;> rfl

theorem nt_le {b : List UInt8} {at_ : Nat} (hk : at_ < b.length) : at_ + (nt b at_).2.1 ≤ b.length := by
  unfold nt
  dsimp only
  split
  · simp; omega
  · have hf : (fst fun k => pk b (at_ + k)) ≤ 1 := by unfold fst; split <;> omega
    have := (dg_bounds (b := b) (at_ := at_) (b.length + 2) (fst fun k => pk b (at_ + k)) (by omega)).2
    unfold numt
    split <;> exact this

def qtt : Option (List UInt8 × Nat) → List UInt8 × Nat × Bool
  | some (s, n) => (s, n, true)
  | none => ([], 0, false)

theorem qtv_eq (o : Option (List UInt8 × Nat)) : qtv o = .tup [.lit (.string ⟨(qtt o).1.toArray⟩), i64 (qtt o).2.1, boolv (qtt o).2.2] := by
  cases o <;> rfl

theorem qt_le {b : List UInt8} {at_ : Nat} : ∀ (f n : Nat) (out : List UInt8), at_ + (qtt (qt b at_ f n out)).2.1 ≤ b.length ∨ b.length < at_
  | 0, _, _ => by simp [qt, qtt]; omega
  | f + 1, n, out => by
    unfold qt
    split
    · simp [qtt]; omega
    · split
      · split
        · exact qt_le f (n + 2) _
        · simp [qtt]; omega
      · split
        · simp [qtt]; omega
        · exact qt_le f (n + 1) _

theorem wl_le {b : List UInt8} {at_ : Nat} : ∀ (f n : Nat), at_ + n ≤ b.length → at_ + (wl (fun k => pk b (at_ + k)) f n).1 ≤ b.length
  | 0, n, h => h
  | f + 1, n, h => by
    have hz : at_ + n = b.length → pk b (at_ + n) = 0 := fun e => pk_none (by omega)
    unfold wl
    split
    · rename_i hd
      refine wl_le f (n + 1) ?_
      rcases Nat.lt_or_ge (at_ + n) b.length with h' | h'
      · omega
      · rw [pk_none h'] at hd; exact absurd hd (by decide)
    · split
      · exact h
      · split
        · exact h
        · rename_i hd _
          refine wl_le f (n + 1) ?_
          rcases Nat.lt_or_ge (at_ + n) b.length with h' | h'
          · omega
          · rw [pk_none h'] at hd; exact absurd (show (!isC 45 0 || isC 45 (pk b (at_ + (n + 1)))) = true from rfl) hd

structure Tok where
  kind : Nat
  text : List UInt8
  n : Int
  place : Nat

def tokv (t : Tok) : AV := .agg [i64 t.kind, .lit (.string ⟨t.text.toArray⟩), i64 t.n, i64 t.place]

/-- The first of these that stands there. -/
def sg (d : List UInt8) : List ByteArray → Option ByteArray
  | [] => none
  | x :: l => if hasP d x.data.toList then some x else sg d l

/-- The token at a place; the place behind it; whether it is one. -/
def nx (b : List UInt8) (at_ : Nat) : Tok × Nat × Bool :=
  if isLet (pk b at_) then
    (if (wl (fun k => pk b (at_ + k)) (b.length + 1) 1).2 then (⟨1, (b.drop at_).take (wl (fun k => pk b (at_ + k)) (b.length + 1) 1).1, 0, at_⟩, at_ + (wl (fun k => pk b (at_ + k)) (b.length + 1) 1).1, true)
     else (⟨1, [], 0, at_⟩, at_, false))
  else if isDig (pk b at_) || (isC 45 (pk b at_) && isDig (pk b (at_ + 1))) then
    (⟨2, [], (nt b at_).1, at_⟩, if (nt b at_).2.2 then at_ + (nt b at_).2.1 else at_, (nt b at_).2.2)
  else if isC 34 (pk b at_) then
    (⟨4, (qtt (qt b at_ (b.length + 2) 1 [])).1, 0, at_⟩, if (qtt (qt b at_ (b.length + 2) 1 [])).2.2 then at_ + (qtt (qt b at_ (b.length + 2) 1 [])).2.1 else at_, (qtt (qt b at_ (b.length + 2) 1 [])).2.2)
  else match sg (b.drop at_) sgs with
    | some x => (⟨3, (b.drop at_).take x.size, 0, at_⟩, at_ + x.size, true)
    | none => (⟨3, [], 0, at_⟩, at_, false)

set_option maxHeartbeats 4000000 in
theorem next_ev {h : List AObj} {s : Nat} {b : List UInt8} {at_ : Nat} (hs : h[s]? = some (txt b at_)) (hk : at_ < b.length) (hb : b.length < 2 ^ 40) :
    Ev E0 17 [.ref s 0] h (fun r h' => r = .ret (.tup [tokv (nx b at_).1, boolv (nx b at_).2.2]) ∧ h' = h.set s (txt b (nx b at_).2.1)) := by
  refine ev_of (fn := Tryd.f17) (hs := []) Tryd.func17 c17 (by simp) fun hcl => ?_
  have hsl : s < h.length := (List.getElem?_eq_some_iff.1 hs).1
  have hs' : ∀ j, (h ++ j)[s]? = some (txt b at_) := fun j => by rw [List.getElem?_append_left hsl]; exact hs
  have hset : ∀ x l, (h ++ l).set s x = h.set s x ++ l := fun x l => List.set_append_left _ _ hsl
  simp only [ac17, hs', get0, get1, set0, set1, len1, app1, ne_eq, not_false_eq_true, Option.map_some, Option.map_none, List.map_cons, List.map_nil, Bool.not_true, Bool.not_false, decide_true, decide_false, List.getElem?_cons_zero, List.getElem?_cons_succ, ↓aw1, ↓aw2, ↓aw17, aw3, aw4, aw5, aw6, aw7, aw8, aw9, aw10, aw11, aw12, aw13, aw14, aw15, aw16, Nat.reduceLeDiff, if_true, if_false, Nat.reduceEqDiff, Nat.reduceAdd, beq_self_eq_true, beq_true, beq_false, Bool.false_eq_true]
  refine EvF.ret (peek_ev (k := 0) (hs' _) (by omega)) ?_
  simp only [ne_eq, not_false_eq_true, Option.map_some, Option.map_none, List.map_cons, List.map_nil, Bool.not_true, Bool.not_false, decide_true, decide_false, List.getElem?_cons_zero, List.getElem?_cons_succ, ↓aw1, ↓aw2, ↓aw17, aw3, aw4, aw5, aw6, aw7, aw8, aw9, aw10, aw11, aw12, aw13, aw14, aw15, aw16, Nat.reduceLeDiff, if_true, if_false, Nat.reduceEqDiff, Nat.reduceAdd, beq_self_eq_true, beq_true, beq_false, Bool.false_eq_true]
  refine EvF.ret (letter_ev _ _) ?_
  have fin : ∀ (t : Tok) (m : Nat) (ok : Bool) (o1 o2 : AObj), nx b at_ = (t, m, ok) →
      Fin (h.set s (txt b m) ++ [o1, o2]) h.length (.tup [tokv t, boolv ok]) (fun r h' => r = .ret (.tup [tokv (nx b at_).1, boolv (nx b at_).2.2]) ∧ h' = h.set s (txt b (nx b at_).2.1)) .t :=
    fun t m ok o1 o2 e => Fin.junk rfl (by simp) (closed_txt hcl) rfl ⟨by rw [e], by rw [e]⟩
  have fin0 : ∀ (t : Tok) (ok : Bool) (o1 o2 : AObj), nx b at_ = (t, at_, ok) →
      Fin (h ++ [o1, o2]) h.length (.tup [tokv t, boolv ok]) (fun r h' => r = .ret (.tup [tokv (nx b at_).1, boolv (nx b at_).2.2]) ∧ h' = h.set s (txt b (nx b at_).2.1)) .t :=
    fun t ok o1 o2 e => Fin.same hcl rfl ⟨by rw [e], by rw [e, set_same hs]⟩
  have h00 : at_ + 0 = at_ := rfl
  cases hl : isLet (pk b at_)
  · have hl' : isLet (pk b (at_ + 0)) = false := hl
    simp only [hl', hs', hset, get0, get1, set0, set1, sget0, sget1, sset0, sset1, List.take_succ_cons, List.take_zero, List.drop_zero, List.drop_succ_cons, len1, app1, ne_eq, not_false_eq_true, Option.map_some, Option.map_none, List.map_cons, List.map_nil, Bool.not_true, Bool.not_false, decide_true, decide_false, List.getElem?_cons_zero, List.getElem?_cons_succ, ↓aw1, ↓aw2, ↓aw17, aw3, aw4, aw5, aw6, aw7, aw8, aw9, aw10, aw11, aw12, aw13, aw14, aw15, aw16, Nat.reduceLeDiff, if_true, if_false, Nat.reduceEqDiff, Nat.reduceAdd, beq_self_eq_true, beq_true, beq_false, Bool.false_eq_true]
    refine EvF.ret (digit_ev _ _) ?_
    cases hd : isDig (pk b at_)
    · have hd' : isDig (pk b (at_ + 0)) = false := hd
      simp only [hd', hs', hset, get0, get1, set0, set1, sget0, sget1, sset0, sset1, List.take_succ_cons, List.take_zero, List.drop_zero, List.drop_succ_cons, len1, app1, ne_eq, not_false_eq_true, Option.map_some, Option.map_none, List.map_cons, List.map_nil, Bool.not_true, Bool.not_false, decide_true, decide_false, List.getElem?_cons_zero, List.getElem?_cons_succ, ↓aw1, ↓aw2, ↓aw17, aw3, aw4, aw5, aw6, aw7, aw8, aw9, aw10, aw11, aw12, aw13, aw14, aw15, aw16, Nat.reduceLeDiff, if_true, if_false, Nat.reduceEqDiff, Nat.reduceAdd, beq_self_eq_true, beq_true, beq_false, Bool.false_eq_true]
      cases h45 : isC 45 (pk b at_)
      · have h45' : decide (((pk b (at_ + 0)).toNat : Int) = 45) = false := h45
        simp only [h45', hs', hset, get0, get1, set0, set1, sget0, sget1, sset0, sset1, List.take_succ_cons, List.take_zero, List.drop_zero, List.drop_succ_cons, len1, app1, ne_eq, not_false_eq_true, Option.map_some, Option.map_none, List.map_cons, List.map_nil, Bool.not_true, Bool.not_false, decide_true, decide_false, List.getElem?_cons_zero, List.getElem?_cons_succ, ↓aw1, ↓aw2, ↓aw17, aw3, aw4, aw5, aw6, aw7, aw8, aw9, aw10, aw11, aw12, aw13, aw14, aw15, aw16, Nat.reduceLeDiff, if_true, if_false, Nat.reduceEqDiff, Nat.reduceAdd, beq_self_eq_true, beq_true, beq_false, Bool.false_eq_true]
        cases h34 : isC 34 (pk b at_)
        · have h34' : decide (((pk b (at_ + 0)).toNat : Int) = 34) = false := h34
          simp only [h34', hs', hset, get0, get1, set0, set1, sget0, sget1, sset0, sset1, List.take_succ_cons, List.take_zero, List.drop_zero, List.drop_succ_cons, len1, app1, ne_eq, not_false_eq_true, Option.map_some, Option.map_none, List.map_cons, List.map_nil, Bool.not_true, Bool.not_false, decide_true, decide_false, List.getElem?_cons_zero, List.getElem?_cons_succ, ↓aw1, ↓aw2, ↓aw17, aw3, aw4, aw5, aw6, aw7, aw8, aw9, aw10, aw11, aw12, aw13, aw14, aw15, aw16, Nat.reduceLeDiff, if_true, if_false, Nat.reduceEqDiff, Nat.reduceAdd, beq_self_eq_true, beq_true, beq_false, Bool.false_eq_true]
          refine EvF.ret (signs_ev _) ?_
          simp only [hs', hset, get0, get1, set0, set1, sget0, sget1, sset0, sset1, List.take_succ_cons, List.take_zero, List.drop_zero, List.drop_succ_cons, len1, app1, ne_eq, not_false_eq_true, Option.map_some, Option.map_none, List.map_cons, List.map_nil, Bool.not_true, Bool.not_false, decide_true, decide_false, List.getElem?_cons_zero, List.getElem?_cons_succ, ↓aw1, ↓aw2, ↓aw17, aw3, aw4, aw5, aw6, aw7, aw8, aw9, aw10, aw11, aw12, aw13, aw14, aw15, aw16, Nat.reduceLeDiff, if_true, if_false, Nat.reduceEqDiff, Nat.reduceAdd, beq_self_eq_true, beq_true, beq_false, Bool.false_eq_true]
          have hnx : ∀ R, sg (b.drop at_) sgs = R → nx b at_ = (match R with | some x => (⟨3, (b.drop at_).take x.size, 0, at_⟩, at_ + x.size, true) | none => (⟨3, [], 0, at_⟩, at_, false)) := fun R e => by simp [nx, hl, hd, h45, h34, e]
          generalize hR : sg (b.drop at_) sgs = R at hnx
          have hnx := hnx R rfl
          refine LoopF.by (α := Nat) (fun i => ⟨[(0, .ref s 0), (22, i64 i), (21, .agg sgL), (4, .ref (h.length + 1) 0), (2, .ref h.length 0), (7, boolv false)], h ++ [.cells [i64 0, .lit (.string ⟨#[]⟩), i64 0, i64 0], .cells [i64 3, .lit (.string ⟨#[]⟩), i64 0, i64 at_]]⟩) (fun i => 15 - i)
            (fun i => i ≤ 15 ∧ sg (b.drop at_) (sgs.drop i) = R) 0 ⟨by omega, hR⟩ (weak_of rfl (by simp [look])) ?_
          rintro i ⟨h1, h2⟩
          by_cases hi : i < 15
          · have e1 : decide ((i : Int) < 15) = true := by simp; omega
            have hw : IntKind.i64.wrap ((i : Int) + 1) = ((i + 1 : Nat) : Int) := by rw [wrap_i64] <;> omega
            simp only [e1, hs', hset, get0, get1, set0, set1, sget0, sget1, sset0, sset1, List.take_succ_cons, List.take_zero, List.drop_zero, List.drop_succ_cons, len1, app1, ne_eq, not_false_eq_true, Option.map_some, Option.map_none, List.map_cons, List.map_nil, Bool.not_true, Bool.not_false, decide_true, decide_false, List.getElem?_cons_zero, List.getElem?_cons_succ, ↓aw1, ↓aw2, ↓aw17, aw3, aw4, aw5, aw6, aw7, aw8, aw9, aw10, aw11, aw12, aw13, aw14, aw15, aw16, Nat.reduceLeDiff, if_true, if_false, Nat.reduceEqDiff, Nat.reduceAdd, beq_self_eq_true, beq_true, beq_false, Bool.false_eq_true]
            refine Need.mk ⟨⟨by omega, by omega⟩, by decide, by decide⟩ fun e he => ?_
            rw [Nat.mul_one, Int.toNat_natCast] at he
            obtain ⟨x, hx, rfl⟩ : ∃ x, sgs[i]? = some x ∧ AV.lit (.string x) = e := by simpa [sgL, List.getElem?_map] using he
            have hdrop : sgs.drop i = x :: sgs.drop (i + 1) := by
              obtain ⟨hlt, hx2⟩ := List.getElem?_eq_some_iff.1 hx
              rw [List.drop_eq_getElem_cons hlt, hx2]
            rw [hdrop] at h2
            simp only [sg] at h2
            simp only [hs', hset, get0, get1, set0, set1, sget0, sget1, sset0, sset1, List.take_succ_cons, List.take_zero, List.drop_zero, List.drop_succ_cons, len1, app1, ne_eq, not_false_eq_true, Option.map_some, Option.map_none, List.map_cons, List.map_nil, Bool.not_true, Bool.not_false, decide_true, decide_false, List.getElem?_cons_zero, List.getElem?_cons_succ, ↓aw1, ↓aw2, ↓aw17, aw3, aw4, aw5, aw6, aw7, aw8, aw9, aw10, aw11, aw12, aw13, aw14, aw15, aw16, Nat.reduceLeDiff, if_true, if_false, Nat.reduceEqDiff, Nat.reduceAdd, beq_self_eq_true, beq_true, beq_false, Bool.false_eq_true]
            refine EvF.ret (has_ev _ (hs' _) (by omega) (by omega)) ?_
            cases hp : hasP (b.drop at_) x.data.toList
            · simp only [hw, hs', hset, get0, get1, set0, set1, sget0, sget1, sset0, sset1, List.take_succ_cons, List.take_zero, List.drop_zero, List.drop_succ_cons, len1, app1, ne_eq, not_false_eq_true, Option.map_some, Option.map_none, List.map_cons, List.map_nil, Bool.not_true, Bool.not_false, decide_true, decide_false, List.getElem?_cons_zero, List.getElem?_cons_succ, ↓aw1, ↓aw2, ↓aw17, aw3, aw4, aw5, aw6, aw7, aw8, aw9, aw10, aw11, aw12, aw13, aw14, aw15, aw16, Nat.reduceLeDiff, if_true, if_false, Nat.reduceEqDiff, Nat.reduceAdd, beq_self_eq_true, beq_true, beq_false, Bool.false_eq_true]
              simp [hp] at h2
              exact ⟨i + 1, ⟨by omega, h2⟩, by omega, weak_of rfl (by simp [look])⟩
            · simp only [hs', hset, get0, get1, set0, set1, sget0, sget1, sset0, sset1, List.take_succ_cons, List.take_zero, List.drop_zero, List.drop_succ_cons, len1, app1, ne_eq, not_false_eq_true, Option.map_some, Option.map_none, List.map_cons, List.map_nil, Bool.not_true, Bool.not_false, decide_true, decide_false, List.getElem?_cons_zero, List.getElem?_cons_succ, ↓aw1, ↓aw2, ↓aw17, aw3, aw4, aw5, aw6, aw7, aw8, aw9, aw10, aw11, aw12, aw13, aw14, aw15, aw16, Nat.reduceLeDiff, if_true, if_false, Nat.reduceEqDiff, Nat.reduceAdd, beq_self_eq_true, beq_true, beq_false, Bool.false_eq_true]
              simp [hp] at h2
              subst h2
              have hxl : at_ + x.size ≤ b.length := by
                have := hasP_len hp
                simp at this
                have : x.size = x.data.size := rfl
                omega
              refine EvF.use (take_ev (n := x.size) (hs' _) hxl (by omega)) ?_
              rintro r h' ⟨rfl, rfl⟩
              simp only [hs', hset, get0, get1, set0, set1, sget0, sget1, sset0, sset1, List.take_succ_cons, List.take_zero, List.drop_zero, List.drop_succ_cons, len1, app1, ne_eq, not_false_eq_true, Option.map_some, Option.map_none, List.map_cons, List.map_nil, Bool.not_true, Bool.not_false, decide_true, decide_false, List.getElem?_cons_zero, List.getElem?_cons_succ, ↓aw1, ↓aw2, ↓aw17, aw3, aw4, aw5, aw6, aw7, aw8, aw9, aw10, aw11, aw12, aw13, aw14, aw15, aw16, Nat.reduceLeDiff, if_true, if_false, Nat.reduceEqDiff, Nat.reduceAdd, beq_self_eq_true, beq_true, beq_false, Bool.false_eq_true]
              exact fin ⟨3, (b.drop at_).take x.size, 0, at_⟩ _ true _ _ hnx
          · have e1 : decide ((i : Int) < 15) = false := by simp; omega
            simp only [e1, hs', hset, get0, get1, set0, set1, sget0, sget1, sset0, sset1, List.take_succ_cons, List.take_zero, List.drop_zero, List.drop_succ_cons, len1, app1, ne_eq, not_false_eq_true, Option.map_some, Option.map_none, List.map_cons, List.map_nil, Bool.not_true, Bool.not_false, decide_true, decide_false, List.getElem?_cons_zero, List.getElem?_cons_succ, ↓aw1, ↓aw2, ↓aw17, aw3, aw4, aw5, aw6, aw7, aw8, aw9, aw10, aw11, aw12, aw13, aw14, aw15, aw16, Nat.reduceLeDiff, if_true, if_false, Nat.reduceEqDiff, Nat.reduceAdd, beq_self_eq_true, beq_true, beq_false, Bool.false_eq_true]
            have : i = 15 := by omega
            subst this
            rw [show sgs.drop 15 = [] from rfl] at h2
            simp only [sg] at h2
            subst h2
            exact fin0 ⟨3, [], 0, at_⟩ false _ _ hnx
        · have h34' : decide (((pk b (at_ + 0)).toNat : Int) = 34) = true := h34
          simp only [h34', hs', hset, get0, get1, set0, set1, sget0, sget1, sset0, sset1, List.take_succ_cons, List.take_zero, List.drop_zero, List.drop_succ_cons, len1, app1, ne_eq, not_false_eq_true, Option.map_some, Option.map_none, List.map_cons, List.map_nil, Bool.not_true, Bool.not_false, decide_true, decide_false, List.getElem?_cons_zero, List.getElem?_cons_succ, ↓aw1, ↓aw2, ↓aw17, aw3, aw4, aw5, aw6, aw7, aw8, aw9, aw10, aw11, aw12, aw13, aw14, aw15, aw16, Nat.reduceLeDiff, if_true, if_false, Nat.reduceEqDiff, Nat.reduceAdd, beq_self_eq_true, beq_true, beq_false, Bool.false_eq_true]
          refine EvF.ret (quoted_ev (hs' _) (by omega) hb) ?_
          rw [qtv_eq]
          have hle := (qt_le (b := b) (at_ := at_) (b.length + 2) 1 []).resolve_right (by omega)
          generalize hR : qtt (qt b at_ (b.length + 2) 1 []) = R at hle
          obtain ⟨v, n, ok⟩ := R
          cases ok
          · simp only [hs', hset, get0, get1, set0, set1, sget0, sget1, sset0, sset1, List.take_succ_cons, List.take_zero, List.drop_zero, List.drop_succ_cons, len1, app1, ne_eq, not_false_eq_true, Option.map_some, Option.map_none, List.map_cons, List.map_nil, Bool.not_true, Bool.not_false, decide_true, decide_false, List.getElem?_cons_zero, List.getElem?_cons_succ, ↓aw1, ↓aw2, ↓aw17, aw3, aw4, aw5, aw6, aw7, aw8, aw9, aw10, aw11, aw12, aw13, aw14, aw15, aw16, Nat.reduceLeDiff, if_true, if_false, Nat.reduceEqDiff, Nat.reduceAdd, beq_self_eq_true, beq_true, beq_false, Bool.false_eq_true]
            exact fin0 ⟨4, v, 0, at_⟩ false _ _ (by simp [nx, hl, hR, hd, h45, h34])
          · simp only [hs', hset, get0, get1, set0, set1, sget0, sget1, sset0, sset1, List.take_succ_cons, List.take_zero, List.drop_zero, List.drop_succ_cons, len1, app1, ne_eq, not_false_eq_true, Option.map_some, Option.map_none, List.map_cons, List.map_nil, Bool.not_true, Bool.not_false, decide_true, decide_false, List.getElem?_cons_zero, List.getElem?_cons_succ, ↓aw1, ↓aw2, ↓aw17, aw3, aw4, aw5, aw6, aw7, aw8, aw9, aw10, aw11, aw12, aw13, aw14, aw15, aw16, Nat.reduceLeDiff, if_true, if_false, Nat.reduceEqDiff, Nat.reduceAdd, beq_self_eq_true, beq_true, beq_false, Bool.false_eq_true]
            refine EvF.use (take_ev (hs' _) hle (by omega)) ?_
            rintro r h' ⟨rfl, rfl⟩
            simp only [hs', hset, get0, get1, set0, set1, sget0, sget1, sset0, sset1, List.take_succ_cons, List.take_zero, List.drop_zero, List.drop_succ_cons, len1, app1, ne_eq, not_false_eq_true, Option.map_some, Option.map_none, List.map_cons, List.map_nil, Bool.not_true, Bool.not_false, decide_true, decide_false, List.getElem?_cons_zero, List.getElem?_cons_succ, ↓aw1, ↓aw2, ↓aw17, aw3, aw4, aw5, aw6, aw7, aw8, aw9, aw10, aw11, aw12, aw13, aw14, aw15, aw16, Nat.reduceLeDiff, if_true, if_false, Nat.reduceEqDiff, Nat.reduceAdd, beq_self_eq_true, beq_true, beq_false, Bool.false_eq_true]
            exact fin ⟨4, v, 0, at_⟩ _ true _ _ (by simp [nx, hl, hR, hd, h45, h34])
      · have h45' : decide (((pk b (at_ + 0)).toNat : Int) = 45) = true := h45
        simp only [h45', hs', hset, get0, get1, set0, set1, sget0, sget1, sset0, sset1, List.take_succ_cons, List.take_zero, List.drop_zero, List.drop_succ_cons, len1, app1, ne_eq, not_false_eq_true, Option.map_some, Option.map_none, List.map_cons, List.map_nil, Bool.not_true, Bool.not_false, decide_true, decide_false, List.getElem?_cons_zero, List.getElem?_cons_succ, ↓aw1, ↓aw2, ↓aw17, aw3, aw4, aw5, aw6, aw7, aw8, aw9, aw10, aw11, aw12, aw13, aw14, aw15, aw16, Nat.reduceLeDiff, if_true, if_false, Nat.reduceEqDiff, Nat.reduceAdd, beq_self_eq_true, beq_true, beq_false, Bool.false_eq_true]
        refine EvF.ret (peek_ev (k := 1) (hs' _) (by omega)) ?_
        simp only [hs', hset, get0, get1, set0, set1, sget0, sget1, sset0, sset1, List.take_succ_cons, List.take_zero, List.drop_zero, List.drop_succ_cons, len1, app1, ne_eq, not_false_eq_true, Option.map_some, Option.map_none, List.map_cons, List.map_nil, Bool.not_true, Bool.not_false, decide_true, decide_false, List.getElem?_cons_zero, List.getElem?_cons_succ, ↓aw1, ↓aw2, ↓aw17, aw3, aw4, aw5, aw6, aw7, aw8, aw9, aw10, aw11, aw12, aw13, aw14, aw15, aw16, Nat.reduceLeDiff, if_true, if_false, Nat.reduceEqDiff, Nat.reduceAdd, beq_self_eq_true, beq_true, beq_false, Bool.false_eq_true]
        refine EvF.ret (digit_ev _ _) ?_
        cases hd1 : isDig (pk b (at_ + 1))
        · simp only [hs', hset, get0, get1, set0, set1, sget0, sget1, sset0, sset1, List.take_succ_cons, List.take_zero, List.drop_zero, List.drop_succ_cons, len1, app1, ne_eq, not_false_eq_true, Option.map_some, Option.map_none, List.map_cons, List.map_nil, Bool.not_true, Bool.not_false, decide_true, decide_false, List.getElem?_cons_zero, List.getElem?_cons_succ, ↓aw1, ↓aw2, ↓aw17, aw3, aw4, aw5, aw6, aw7, aw8, aw9, aw10, aw11, aw12, aw13, aw14, aw15, aw16, Nat.reduceLeDiff, if_true, if_false, Nat.reduceEqDiff, Nat.reduceAdd, beq_self_eq_true, beq_true, beq_false, Bool.false_eq_true]
          have h34' : decide (((pk b (at_ + 0)).toNat : Int) = 34) = false := by
            have h45'' : ((pk b (at_ + 0)).toNat : Int) = 45 := of_decide_eq_true h45'
            rw [h45'']; rfl
          have h34 : isC 34 (pk b at_) = false := h34'
          simp only [h34', hs', hset, get0, get1, set0, set1, sget0, sget1, sset0, sset1, List.take_succ_cons, List.take_zero, List.drop_zero, List.drop_succ_cons, len1, app1, ne_eq, not_false_eq_true, Option.map_some, Option.map_none, List.map_cons, List.map_nil, Bool.not_true, Bool.not_false, decide_true, decide_false, List.getElem?_cons_zero, List.getElem?_cons_succ, ↓aw1, ↓aw2, ↓aw17, aw3, aw4, aw5, aw6, aw7, aw8, aw9, aw10, aw11, aw12, aw13, aw14, aw15, aw16, Nat.reduceLeDiff, if_true, if_false, Nat.reduceEqDiff, Nat.reduceAdd, beq_self_eq_true, beq_true, beq_false, Bool.false_eq_true]
          refine EvF.ret (signs_ev _) ?_
          simp only [hs', hset, get0, get1, set0, set1, sget0, sget1, sset0, sset1, List.take_succ_cons, List.take_zero, List.drop_zero, List.drop_succ_cons, len1, app1, ne_eq, not_false_eq_true, Option.map_some, Option.map_none, List.map_cons, List.map_nil, Bool.not_true, Bool.not_false, decide_true, decide_false, List.getElem?_cons_zero, List.getElem?_cons_succ, ↓aw1, ↓aw2, ↓aw17, aw3, aw4, aw5, aw6, aw7, aw8, aw9, aw10, aw11, aw12, aw13, aw14, aw15, aw16, Nat.reduceLeDiff, if_true, if_false, Nat.reduceEqDiff, Nat.reduceAdd, beq_self_eq_true, beq_true, beq_false, Bool.false_eq_true]
          have hnx : ∀ R, sg (b.drop at_) sgs = R → nx b at_ = (match R with | some x => (⟨3, (b.drop at_).take x.size, 0, at_⟩, at_ + x.size, true) | none => (⟨3, [], 0, at_⟩, at_, false)) := fun R e => by simp [nx, hl, hd, h45, h34, hd1, e]
          generalize hR : sg (b.drop at_) sgs = R at hnx
          have hnx := hnx R rfl
          refine LoopF.by (α := Nat) (fun i => ⟨[(0, .ref s 0), (22, i64 i), (21, .agg sgL), (4, .ref (h.length + 1) 0), (2, .ref h.length 0), (7, boolv false)], h ++ [.cells [i64 0, .lit (.string ⟨#[]⟩), i64 0, i64 0], .cells [i64 3, .lit (.string ⟨#[]⟩), i64 0, i64 at_]]⟩) (fun i => 15 - i)
            (fun i => i ≤ 15 ∧ sg (b.drop at_) (sgs.drop i) = R) 0 ⟨by omega, hR⟩ (weak_of rfl (by simp [look])) ?_
          rintro i ⟨h1, h2⟩
          by_cases hi : i < 15
          · have e1 : decide ((i : Int) < 15) = true := by simp; omega
            have hw : IntKind.i64.wrap ((i : Int) + 1) = ((i + 1 : Nat) : Int) := by rw [wrap_i64] <;> omega
            simp only [e1, hs', hset, get0, get1, set0, set1, sget0, sget1, sset0, sset1, List.take_succ_cons, List.take_zero, List.drop_zero, List.drop_succ_cons, len1, app1, ne_eq, not_false_eq_true, Option.map_some, Option.map_none, List.map_cons, List.map_nil, Bool.not_true, Bool.not_false, decide_true, decide_false, List.getElem?_cons_zero, List.getElem?_cons_succ, ↓aw1, ↓aw2, ↓aw17, aw3, aw4, aw5, aw6, aw7, aw8, aw9, aw10, aw11, aw12, aw13, aw14, aw15, aw16, Nat.reduceLeDiff, if_true, if_false, Nat.reduceEqDiff, Nat.reduceAdd, beq_self_eq_true, beq_true, beq_false, Bool.false_eq_true]
            refine Need.mk ⟨⟨by omega, by omega⟩, by decide, by decide⟩ fun e he => ?_
            rw [Nat.mul_one, Int.toNat_natCast] at he
            obtain ⟨x, hx, rfl⟩ : ∃ x, sgs[i]? = some x ∧ AV.lit (.string x) = e := by simpa [sgL, List.getElem?_map] using he
            have hdrop : sgs.drop i = x :: sgs.drop (i + 1) := by
              obtain ⟨hlt, hx2⟩ := List.getElem?_eq_some_iff.1 hx
              rw [List.drop_eq_getElem_cons hlt, hx2]
            rw [hdrop] at h2
            simp only [sg] at h2
            simp only [hs', hset, get0, get1, set0, set1, sget0, sget1, sset0, sset1, List.take_succ_cons, List.take_zero, List.drop_zero, List.drop_succ_cons, len1, app1, ne_eq, not_false_eq_true, Option.map_some, Option.map_none, List.map_cons, List.map_nil, Bool.not_true, Bool.not_false, decide_true, decide_false, List.getElem?_cons_zero, List.getElem?_cons_succ, ↓aw1, ↓aw2, ↓aw17, aw3, aw4, aw5, aw6, aw7, aw8, aw9, aw10, aw11, aw12, aw13, aw14, aw15, aw16, Nat.reduceLeDiff, if_true, if_false, Nat.reduceEqDiff, Nat.reduceAdd, beq_self_eq_true, beq_true, beq_false, Bool.false_eq_true]
            refine EvF.ret (has_ev _ (hs' _) (by omega) (by omega)) ?_
            cases hp : hasP (b.drop at_) x.data.toList
            · simp only [hw, hs', hset, get0, get1, set0, set1, sget0, sget1, sset0, sset1, List.take_succ_cons, List.take_zero, List.drop_zero, List.drop_succ_cons, len1, app1, ne_eq, not_false_eq_true, Option.map_some, Option.map_none, List.map_cons, List.map_nil, Bool.not_true, Bool.not_false, decide_true, decide_false, List.getElem?_cons_zero, List.getElem?_cons_succ, ↓aw1, ↓aw2, ↓aw17, aw3, aw4, aw5, aw6, aw7, aw8, aw9, aw10, aw11, aw12, aw13, aw14, aw15, aw16, Nat.reduceLeDiff, if_true, if_false, Nat.reduceEqDiff, Nat.reduceAdd, beq_self_eq_true, beq_true, beq_false, Bool.false_eq_true]
              simp [hp] at h2
              exact ⟨i + 1, ⟨by omega, h2⟩, by omega, weak_of rfl (by simp [look])⟩
            · simp only [hs', hset, get0, get1, set0, set1, sget0, sget1, sset0, sset1, List.take_succ_cons, List.take_zero, List.drop_zero, List.drop_succ_cons, len1, app1, ne_eq, not_false_eq_true, Option.map_some, Option.map_none, List.map_cons, List.map_nil, Bool.not_true, Bool.not_false, decide_true, decide_false, List.getElem?_cons_zero, List.getElem?_cons_succ, ↓aw1, ↓aw2, ↓aw17, aw3, aw4, aw5, aw6, aw7, aw8, aw9, aw10, aw11, aw12, aw13, aw14, aw15, aw16, Nat.reduceLeDiff, if_true, if_false, Nat.reduceEqDiff, Nat.reduceAdd, beq_self_eq_true, beq_true, beq_false, Bool.false_eq_true]
              simp [hp] at h2
              subst h2
              have hxl : at_ + x.size ≤ b.length := by
                have := hasP_len hp
                simp at this
                have : x.size = x.data.size := rfl
                omega
              refine EvF.use (take_ev (n := x.size) (hs' _) hxl (by omega)) ?_
              rintro r h' ⟨rfl, rfl⟩
              simp only [hs', hset, get0, get1, set0, set1, sget0, sget1, sset0, sset1, List.take_succ_cons, List.take_zero, List.drop_zero, List.drop_succ_cons, len1, app1, ne_eq, not_false_eq_true, Option.map_some, Option.map_none, List.map_cons, List.map_nil, Bool.not_true, Bool.not_false, decide_true, decide_false, List.getElem?_cons_zero, List.getElem?_cons_succ, ↓aw1, ↓aw2, ↓aw17, aw3, aw4, aw5, aw6, aw7, aw8, aw9, aw10, aw11, aw12, aw13, aw14, aw15, aw16, Nat.reduceLeDiff, if_true, if_false, Nat.reduceEqDiff, Nat.reduceAdd, beq_self_eq_true, beq_true, beq_false, Bool.false_eq_true]
              exact fin ⟨3, (b.drop at_).take x.size, 0, at_⟩ _ true _ _ hnx
          · have e1 : decide ((i : Int) < 15) = false := by simp; omega
            simp only [e1, hs', hset, get0, get1, set0, set1, sget0, sget1, sset0, sset1, List.take_succ_cons, List.take_zero, List.drop_zero, List.drop_succ_cons, len1, app1, ne_eq, not_false_eq_true, Option.map_some, Option.map_none, List.map_cons, List.map_nil, Bool.not_true, Bool.not_false, decide_true, decide_false, List.getElem?_cons_zero, List.getElem?_cons_succ, ↓aw1, ↓aw2, ↓aw17, aw3, aw4, aw5, aw6, aw7, aw8, aw9, aw10, aw11, aw12, aw13, aw14, aw15, aw16, Nat.reduceLeDiff, if_true, if_false, Nat.reduceEqDiff, Nat.reduceAdd, beq_self_eq_true, beq_true, beq_false, Bool.false_eq_true]
            have : i = 15 := by omega
            subst this
            rw [show sgs.drop 15 = [] from rfl] at h2
            simp only [sg] at h2
            subst h2
            exact fin0 ⟨3, [], 0, at_⟩ false _ _ hnx
        · simp only [hs', hset, get0, get1, set0, set1, sget0, sget1, sset0, sset1, List.take_succ_cons, List.take_zero, List.drop_zero, List.drop_succ_cons, len1, app1, ne_eq, not_false_eq_true, Option.map_some, Option.map_none, List.map_cons, List.map_nil, Bool.not_true, Bool.not_false, decide_true, decide_false, List.getElem?_cons_zero, List.getElem?_cons_succ, ↓aw1, ↓aw2, ↓aw17, aw3, aw4, aw5, aw6, aw7, aw8, aw9, aw10, aw11, aw12, aw13, aw14, aw15, aw16, Nat.reduceLeDiff, if_true, if_false, Nat.reduceEqDiff, Nat.reduceAdd, beq_self_eq_true, beq_true, beq_false, Bool.false_eq_true]
          refine EvF.ret (number_ev (hs' _) hk hb) ?_
          rw [num_eq]
          have hle := nt_le hk
          generalize hR : nt b at_ = R at hle
          obtain ⟨v, n, ok⟩ := R
          cases ok
          · simp only [hs', hset, get0, get1, set0, set1, sget0, sget1, sset0, sset1, List.take_succ_cons, List.take_zero, List.drop_zero, List.drop_succ_cons, len1, app1, ne_eq, not_false_eq_true, Option.map_some, Option.map_none, List.map_cons, List.map_nil, Bool.not_true, Bool.not_false, decide_true, decide_false, List.getElem?_cons_zero, List.getElem?_cons_succ, ↓aw1, ↓aw2, ↓aw17, aw3, aw4, aw5, aw6, aw7, aw8, aw9, aw10, aw11, aw12, aw13, aw14, aw15, aw16, Nat.reduceLeDiff, if_true, if_false, Nat.reduceEqDiff, Nat.reduceAdd, beq_self_eq_true, beq_true, beq_false, Bool.false_eq_true]
            exact fin0 ⟨2, [], v, at_⟩ false _ _ (by simp [nx, hl, hR, hd, h45, hd1])
          · simp only [hs', hset, get0, get1, set0, set1, sget0, sget1, sset0, sset1, List.take_succ_cons, List.take_zero, List.drop_zero, List.drop_succ_cons, len1, app1, ne_eq, not_false_eq_true, Option.map_some, Option.map_none, List.map_cons, List.map_nil, Bool.not_true, Bool.not_false, decide_true, decide_false, List.getElem?_cons_zero, List.getElem?_cons_succ, ↓aw1, ↓aw2, ↓aw17, aw3, aw4, aw5, aw6, aw7, aw8, aw9, aw10, aw11, aw12, aw13, aw14, aw15, aw16, Nat.reduceLeDiff, if_true, if_false, Nat.reduceEqDiff, Nat.reduceAdd, beq_self_eq_true, beq_true, beq_false, Bool.false_eq_true]
            refine EvF.use (take_ev (hs' _) hle (by omega)) ?_
            rintro r h' ⟨rfl, rfl⟩
            simp only [hs', hset, get0, get1, set0, set1, sget0, sget1, sset0, sset1, List.take_succ_cons, List.take_zero, List.drop_zero, List.drop_succ_cons, len1, app1, ne_eq, not_false_eq_true, Option.map_some, Option.map_none, List.map_cons, List.map_nil, Bool.not_true, Bool.not_false, decide_true, decide_false, List.getElem?_cons_zero, List.getElem?_cons_succ, ↓aw1, ↓aw2, ↓aw17, aw3, aw4, aw5, aw6, aw7, aw8, aw9, aw10, aw11, aw12, aw13, aw14, aw15, aw16, Nat.reduceLeDiff, if_true, if_false, Nat.reduceEqDiff, Nat.reduceAdd, beq_self_eq_true, beq_true, beq_false, Bool.false_eq_true]
            exact fin ⟨2, [], v, at_⟩ _ true _ _ (by simp [nx, hl, hR, hd, h45, hd1])
    · have hd' : isDig (pk b (at_ + 0)) = true := hd
      simp only [hd', hs', hset, get0, get1, set0, set1, sget0, sget1, sset0, sset1, List.take_succ_cons, List.take_zero, List.drop_zero, List.drop_succ_cons, len1, app1, ne_eq, not_false_eq_true, Option.map_some, Option.map_none, List.map_cons, List.map_nil, Bool.not_true, Bool.not_false, decide_true, decide_false, List.getElem?_cons_zero, List.getElem?_cons_succ, ↓aw1, ↓aw2, ↓aw17, aw3, aw4, aw5, aw6, aw7, aw8, aw9, aw10, aw11, aw12, aw13, aw14, aw15, aw16, Nat.reduceLeDiff, if_true, if_false, Nat.reduceEqDiff, Nat.reduceAdd, beq_self_eq_true, beq_true, beq_false, Bool.false_eq_true]
      refine EvF.ret (number_ev (hs' _) hk hb) ?_
      rw [num_eq]
      have hle := nt_le hk
      generalize hR : nt b at_ = R at hle
      obtain ⟨v, n, ok⟩ := R
      cases ok
      · simp only [hs', hset, get0, get1, set0, set1, sget0, sget1, sset0, sset1, List.take_succ_cons, List.take_zero, List.drop_zero, List.drop_succ_cons, len1, app1, ne_eq, not_false_eq_true, Option.map_some, Option.map_none, List.map_cons, List.map_nil, Bool.not_true, Bool.not_false, decide_true, decide_false, List.getElem?_cons_zero, List.getElem?_cons_succ, ↓aw1, ↓aw2, ↓aw17, aw3, aw4, aw5, aw6, aw7, aw8, aw9, aw10, aw11, aw12, aw13, aw14, aw15, aw16, Nat.reduceLeDiff, if_true, if_false, Nat.reduceEqDiff, Nat.reduceAdd, beq_self_eq_true, beq_true, beq_false, Bool.false_eq_true]
        exact fin0 ⟨2, [], v, at_⟩ false _ _ (by simp [nx, hl, hR, hd])
      · simp only [hs', hset, get0, get1, set0, set1, sget0, sget1, sset0, sset1, List.take_succ_cons, List.take_zero, List.drop_zero, List.drop_succ_cons, len1, app1, ne_eq, not_false_eq_true, Option.map_some, Option.map_none, List.map_cons, List.map_nil, Bool.not_true, Bool.not_false, decide_true, decide_false, List.getElem?_cons_zero, List.getElem?_cons_succ, ↓aw1, ↓aw2, ↓aw17, aw3, aw4, aw5, aw6, aw7, aw8, aw9, aw10, aw11, aw12, aw13, aw14, aw15, aw16, Nat.reduceLeDiff, if_true, if_false, Nat.reduceEqDiff, Nat.reduceAdd, beq_self_eq_true, beq_true, beq_false, Bool.false_eq_true]
        refine EvF.use (take_ev (hs' _) hle (by omega)) ?_
        rintro r h' ⟨rfl, rfl⟩
        simp only [hs', hset, get0, get1, set0, set1, sget0, sget1, sset0, sset1, List.take_succ_cons, List.take_zero, List.drop_zero, List.drop_succ_cons, len1, app1, ne_eq, not_false_eq_true, Option.map_some, Option.map_none, List.map_cons, List.map_nil, Bool.not_true, Bool.not_false, decide_true, decide_false, List.getElem?_cons_zero, List.getElem?_cons_succ, ↓aw1, ↓aw2, ↓aw17, aw3, aw4, aw5, aw6, aw7, aw8, aw9, aw10, aw11, aw12, aw13, aw14, aw15, aw16, Nat.reduceLeDiff, if_true, if_false, Nat.reduceEqDiff, Nat.reduceAdd, beq_self_eq_true, beq_true, beq_false, Bool.false_eq_true]
        exact fin ⟨2, [], v, at_⟩ _ true _ _ (by simp [nx, hl, hR, hd])
  · have hl' : isLet (pk b (at_ + 0)) = true := hl
    simp only [hl', hs', hset, get0, get1, set0, set1, sget0, sget1, sset0, sset1, List.take_succ_cons, List.take_zero, List.drop_zero, List.drop_succ_cons, len1, app1, ne_eq, not_false_eq_true, Option.map_some, Option.map_none, List.map_cons, List.map_nil, Bool.not_true, Bool.not_false, decide_true, decide_false, List.getElem?_cons_zero, List.getElem?_cons_succ, ↓aw1, ↓aw2, ↓aw17, aw3, aw4, aw5, aw6, aw7, aw8, aw9, aw10, aw11, aw12, aw13, aw14, aw15, aw16, Nat.reduceLeDiff, if_true, if_false, Nat.reduceEqDiff, Nat.reduceAdd, beq_self_eq_true, beq_true, beq_false, Bool.false_eq_true]
    refine EvF.ret (word_ev (hs' _) (by omega)) ?_
    have hle := wl_le (b := b) (at_ := at_) (b.length + 1) 1 (by omega)
    generalize hR : wl (fun k => pk b (at_ + k)) (b.length + 1) 1 = R at hle
    obtain ⟨n, ok⟩ := R
    cases ok
    · simp only [hs', hset, get0, get1, set0, set1, sget0, sget1, sset0, sset1, List.take_succ_cons, List.take_zero, List.drop_zero, List.drop_succ_cons, len1, app1, ne_eq, not_false_eq_true, Option.map_some, Option.map_none, List.map_cons, List.map_nil, Bool.not_true, Bool.not_false, decide_true, decide_false, List.getElem?_cons_zero, List.getElem?_cons_succ, ↓aw1, ↓aw2, ↓aw17, aw3, aw4, aw5, aw6, aw7, aw8, aw9, aw10, aw11, aw12, aw13, aw14, aw15, aw16, Nat.reduceLeDiff, if_true, if_false, Nat.reduceEqDiff, Nat.reduceAdd, beq_self_eq_true, beq_true, beq_false, Bool.false_eq_true]
      exact fin0 ⟨1, [], 0, at_⟩ false _ _ (by simp [nx, hl, hR])
    · simp only [hs', hset, get0, get1, set0, set1, sget0, sget1, sset0, sset1, List.take_succ_cons, List.take_zero, List.drop_zero, List.drop_succ_cons, len1, app1, ne_eq, not_false_eq_true, Option.map_some, Option.map_none, List.map_cons, List.map_nil, Bool.not_true, Bool.not_false, decide_true, decide_false, List.getElem?_cons_zero, List.getElem?_cons_succ, ↓aw1, ↓aw2, ↓aw17, aw3, aw4, aw5, aw6, aw7, aw8, aw9, aw10, aw11, aw12, aw13, aw14, aw15, aw16, Nat.reduceLeDiff, if_true, if_false, Nat.reduceEqDiff, Nat.reduceAdd, beq_self_eq_true, beq_true, beq_false, Bool.false_eq_true]
      refine EvF.use (take_ev (hs' _) hle (by omega)) ?_
      rintro r h' ⟨rfl, rfl⟩
      simp only [hs', hset, get0, get1, set0, set1, sget0, sget1, sset0, sset1, List.take_succ_cons, List.take_zero, List.drop_zero, List.drop_succ_cons, len1, app1, ne_eq, not_false_eq_true, Option.map_some, Option.map_none, List.map_cons, List.map_nil, Bool.not_true, Bool.not_false, decide_true, decide_false, List.getElem?_cons_zero, List.getElem?_cons_succ, ↓aw1, ↓aw2, ↓aw17, aw3, aw4, aw5, aw6, aw7, aw8, aw9, aw10, aw11, aw12, aw13, aw14, aw15, aw16, Nat.reduceLeDiff, if_true, if_false, Nat.reduceEqDiff, Nat.reduceAdd, beq_self_eq_true, beq_true, beq_false, Bool.false_eq_true]
      exact fin ⟨1, (b.drop at_).take n, 0, at_⟩ _ true _ _ (by simp [nx, hl, hR])
end Go.Abs.T7
