/- What stands at a place. -/
import Derived.Test.YtenhfnadhmjloaaDoorT7F
set_option linter.all false
namespace Go.Abs.T7
open Go Go.Abs Go.Proofs
set_option linter.unusedSimpArgs false

theorem bitesOf_byA : ∀ (b : List UInt8), bitesOf (byA b) = some b
  | [] => rfl
  | c :: b => by
    have := bitesOf_byA b
    simp only [byA] at this
    simp [bitesOf, this]

theorem byA_fit (b : List UInt8) : ∀ e, e ∈ byA b → e.sure = true ∧ e.cells.length = 1 := by
  intro e he; obtain ⟨c, _, rfl⟩ := List.mem_map.1 he; exact ⟨rfl, rfl⟩

theorem under_byA (n : Nat) (c : Cap) (b : List UInt8) : AV.under n (.sl c (byA b)) = true := by
  simp only [AV.under]
  exact unders_of fun av hav => by obtain ⟨c, _, rfl⟩ := List.mem_map.1 hav; rfl

theorem closed_set {h : List AObj} {s : Nat} {l : List AV} (hc : Closed h) (hl : unders h.length l = true) : Closed (h.set s (.cells l)) := by
  intro l' hl'
  rw [List.length_set]
  rcases List.mem_or_eq_of_mem_set hl' with h1 | h1
  · exact hc l' h1
  · cases h1; exact hl

theorem closed_txt {h : List AObj} {s : Nat} {b : List UInt8} {n : Nat} (hc : Closed h) : Closed (h.set s (txt b n)) :=
  closed_set hc (by have := under_byA h.length .unk b; simp only [unders, this]; rfl)

theorem ba_eq (a b : List UInt8) : decide ((⟨a.toArray⟩ : ByteArray) = ⟨b.toArray⟩) = decide (a = b) := by
  rw [decide_eq_decide]
  constructor
  · intro h; injection h with h; simpa using h
  · rintro rfl; rfl

theorem equal_ev (a b : List UInt8) (h : List AObj) : EvR E0 32 [.sl .unk (byA a), .sl .unk (byA b)] h (boolv (decide (a = b))) := by
  refine ev_of (fn := Tryd.f32) (hs := []) Tryd.func32 c32 (by simp) fun hcl => ?_
  have ha := bitesOf_byA a
  have hb := bitesOf_byA b
  simp only [byA] at ha hb
  simp only [ac32, ha, hb, byA, ne_eq, not_false_eq_true, Option.map_some, Option.map_none, List.map_cons, List.map_nil, Bool.not_true, Bool.not_false, decide_true, decide_false, List.getElem?_cons_zero, List.getElem?_cons_succ, ↓aw1, ↓aw2, ↓aw17, aw3, aw4, aw5, aw6, aw7, aw8, aw9, aw10, aw11, aw12, aw13, aw14, aw15, aw16, Nat.reduceLeDiff, if_true, if_false, Nat.reduceEqDiff, Nat.reduceAdd, beq_self_eq_true, beq_true, beq_false, Bool.false_eq_true]
  exact Fin.same0 hcl (by simp [AV.under]) ⟨by rw [ba_eq], rfl⟩

/-- Does a text begin with another? -/
def hasP (a p : List UInt8) : Bool := decide (p.length ≤ a.length) && decide (a.take p.length = p)

theorem byA_take (b : List UInt8) (n : Nat) : List.take n (byA b) = byA (b.take n) := by simp [byA]
theorem byA_drop (b : List UInt8) (n : Nat) : List.drop n (byA b) = byA (b.drop n) := by simp [byA]

theorem hasPrefix_ev (a p : List UInt8) (h : List AObj) : EvR E0 30 [.sl .unk (byA a), .sl .unk (byA p)] h (boolv (hasP a p)) := by
  refine ev_of (fn := Tryd.f30) (hs := []) Tryd.func30 c30 (by simp) fun hcl => ?_
  have la : (byA a).length = a.length := by simp
  have lp : (byA p).length = p.length := by simp
  by_cases hp : p.length ≤ a.length
  · have e0 : decide ((p.length : Int) ≤ (a.length : Int)) = true := by simpa using hp
    simp only [ac30, la, lp, e0, ne_eq, not_false_eq_true, Option.map_some, Option.map_none, List.map_cons, List.map_nil, Bool.not_true, Bool.not_false, decide_true, decide_false, List.getElem?_cons_zero, List.getElem?_cons_succ, ↓aw1, ↓aw2, ↓aw17, aw3, aw4, aw5, aw6, aw7, aw8, aw9, aw10, aw11, aw12, aw13, aw14, aw15, aw16, Nat.reduceLeDiff, if_true, if_false, Nat.reduceEqDiff, Nat.reduceAdd, beq_self_eq_true, beq_true, beq_false, Bool.false_eq_true]
    refine Need.mk ⟨by omega, by omega, by omega, .inl trivial⟩ ?_
    have e1 : List.drop (Int.toNat 0) (List.take (Int.toNat (p.length : Int)) (byA a)) = byA (a.take p.length) := by simp
    simp only [e1, ne_eq, not_false_eq_true, Option.map_some, Option.map_none, List.map_cons, List.map_nil, Bool.not_true, Bool.not_false, decide_true, decide_false, List.getElem?_cons_zero, List.getElem?_cons_succ, ↓aw1, ↓aw2, ↓aw17, aw3, aw4, aw5, aw6, aw7, aw8, aw9, aw10, aw11, aw12, aw13, aw14, aw15, aw16, Nat.reduceLeDiff, if_true, if_false, Nat.reduceEqDiff, Nat.reduceAdd, beq_self_eq_true, beq_true, beq_false, Bool.false_eq_true]
    refine EvF.ret (equal_ev _ _ h) ?_
    simp only [ne_eq, not_false_eq_true, Option.map_some, Option.map_none, List.map_cons, List.map_nil, Bool.not_true, Bool.not_false, decide_true, decide_false, List.getElem?_cons_zero, List.getElem?_cons_succ, ↓aw1, ↓aw2, ↓aw17, aw3, aw4, aw5, aw6, aw7, aw8, aw9, aw10, aw11, aw12, aw13, aw14, aw15, aw16, Nat.reduceLeDiff, if_true, if_false, Nat.reduceEqDiff, Nat.reduceAdd, beq_self_eq_true, beq_true, beq_false, Bool.false_eq_true]
    exact Fin.same0 hcl (by simp [AV.under]) ⟨by simp [hasP, hp], rfl⟩
  · have e0 : decide ((p.length : Int) ≤ (a.length : Int)) = false := by simpa using hp
    simp only [ac30, la, lp, e0, ne_eq, not_false_eq_true, Option.map_some, Option.map_none, List.map_cons, List.map_nil, Bool.not_true, Bool.not_false, decide_true, decide_false, List.getElem?_cons_zero, List.getElem?_cons_succ, ↓aw1, ↓aw2, ↓aw17, aw3, aw4, aw5, aw6, aw7, aw8, aw9, aw10, aw11, aw12, aw13, aw14, aw15, aw16, Nat.reduceLeDiff, if_true, if_false, Nat.reduceEqDiff, Nat.reduceAdd, beq_self_eq_true, beq_true, beq_false, Bool.false_eq_true]
    exact Fin.same0 hcl (by simp [AV.under]) ⟨by simp [hasP, hp], rfl⟩

theorem has_ev {h : List AObj} {s : Nat} {b : List UInt8} {at_ : Nat} (p : ByteArray) (hs : h[s]? = some (txt b at_)) (hk : at_ ≤ b.length) (hb : b.length < 2 ^ 60) :
    EvR E0 23 [.ref s 0, .lit (.string p)] h (boolv (hasP (b.drop at_) p.data.toList)) := by
  refine ev_of (fn := Tryd.f23) (hs := []) Tryd.func23 c23 (by simp) fun hcl => ?_
  simp only [ac23, hs, ne_eq, not_false_eq_true, Option.map_some, Option.map_none, List.map_cons, List.map_nil, Bool.not_true, Bool.not_false, decide_true, decide_false, List.getElem?_cons_zero, List.getElem?_cons_succ, ↓aw1, ↓aw2, ↓aw17, aw3, aw4, aw5, aw6, aw7, aw8, aw9, aw10, aw11, aw12, aw13, aw14, aw15, aw16, Nat.reduceLeDiff, if_true, if_false, Nat.reduceEqDiff, Nat.reduceAdd, beq_self_eq_true, beq_true, beq_false, Bool.false_eq_true]
  refine Need.mk ⟨by omega, by simp; omega, by omega, .inr (byA_fit b)⟩ ?_
  have e1 : List.drop (Int.toNat (at_ : Int)) (List.take (Int.toNat ((byA b).length : Int)) (byA b)) = byA (b.drop at_) := by simp [List.take_of_length_le]
  simp only [e1, ne_eq, not_false_eq_true, Option.map_some, Option.map_none, List.map_cons, List.map_nil, Bool.not_true, Bool.not_false, decide_true, decide_false, List.getElem?_cons_zero, List.getElem?_cons_succ, ↓aw1, ↓aw2, ↓aw17, aw3, aw4, aw5, aw6, aw7, aw8, aw9, aw10, aw11, aw12, aw13, aw14, aw15, aw16, Nat.reduceLeDiff, if_true, if_false, Nat.reduceEqDiff, Nat.reduceAdd, beq_self_eq_true, beq_true, beq_false, Bool.false_eq_true]
  refine EvRF.ret (hasPrefix_ev _ _ h) ?_
  simp only [ne_eq, not_false_eq_true, Option.map_some, Option.map_none, List.map_cons, List.map_nil, Bool.not_true, Bool.not_false, decide_true, decide_false, List.getElem?_cons_zero, List.getElem?_cons_succ, ↓aw1, ↓aw2, ↓aw17, aw3, aw4, aw5, aw6, aw7, aw8, aw9, aw10, aw11, aw12, aw13, aw14, aw15, aw16, Nat.reduceLeDiff, if_true, if_false, Nat.reduceEqDiff, Nat.reduceAdd, beq_self_eq_true, beq_true, beq_false, Bool.false_eq_true]
  exact Fin.same0 hcl (by simp [AV.under]) ⟨rfl, rfl⟩

theorem take_ev {h : List AObj} {s : Nat} {b : List UInt8} {at_ n : Nat} (hs : h[s]? = some (txt b at_)) (hk : at_ + n ≤ b.length) (hb : b.length < 2 ^ 60) :
    Ev E0 25 [.ref s 0, i64 n] h (fun r h' => r = .ret (.lit (.string ⟨((b.drop at_).take n).toArray⟩)) ∧ h' = h.set s (txt b (at_ + n))) := by
  refine ev_of (fn := Tryd.f25) (hs := []) Tryd.func25 c25 (by simp) fun hcl => ?_
  have hw : IntKind.i64.wrap ((at_ : Int) + (n : Int)) = ((at_ + n : Nat) : Int) := by rw [wrap_i64] <;> omega
  simp only [ac25, hs, hw, ne_eq, not_false_eq_true, Option.map_some, Option.map_none, List.map_cons, List.map_nil, Bool.not_true, Bool.not_false, decide_true, decide_false, List.getElem?_cons_zero, List.getElem?_cons_succ, ↓aw1, ↓aw2, ↓aw17, aw3, aw4, aw5, aw6, aw7, aw8, aw9, aw10, aw11, aw12, aw13, aw14, aw15, aw16, Nat.reduceLeDiff, if_true, if_false, Nat.reduceEqDiff, Nat.reduceAdd, beq_self_eq_true, beq_true, beq_false, Bool.false_eq_true]
  refine Need.mk ⟨by omega, by omega, by simp; omega, .inr (byA_fit b)⟩ ?_
  have e1 : List.drop (Int.toNat (at_ : Int)) (List.take (Int.toNat ((at_ + n : Nat) : Int)) (byA b)) = byA ((b.drop at_).take n) := by
    simp only [Int.toNat_natCast, byA_take, byA_drop, List.drop_take]
    congr 2
    omega
  simp only [e1, bitesOf_byA, hs, hw, ne_eq, not_false_eq_true, Option.map_some, Option.map_none, List.map_cons, List.map_nil, Bool.not_true, Bool.not_false, decide_true, decide_false, List.getElem?_cons_zero, List.getElem?_cons_succ, ↓aw1, ↓aw2, ↓aw17, aw3, aw4, aw5, aw6, aw7, aw8, aw9, aw10, aw11, aw12, aw13, aw14, aw15, aw16, Nat.reduceLeDiff, if_true, if_false, Nat.reduceEqDiff, Nat.reduceAdd, beq_self_eq_true, beq_true, beq_false, Bool.false_eq_true]
  exact Fin.here (by simp) (closed_txt hcl) (by simp [AV.under]) ⟨rfl, rfl⟩

theorem set_same {α : Type} {l : List α} {i : Nat} {a : α} (h : l[i]? = some a) : l.set i a = l := by
  apply List.ext_getElem?
  intro j
  rw [List.getElem?_set]
  split
  · rename_i hij
    subst hij
    rw [h, if_pos (List.getElem?_eq_some_iff.1 h).1]
  · rfl

/-- Where a comment ends, told by what is left from behind its two hyphens on. -/
def cm (b : List UInt8) : Nat → Nat → Nat
  | 0, n => n
  | f + 1, n =>
    if b.length ≤ n then n
    else if isC 10 (pk b n) then n + 1
    else if hasP (b.drop n) [45, 45] then n + 2
    else cm b f (n + 1)

theorem comment_ev {h : List AObj} {s : Nat} {b : List UInt8} {at_ : Nat} (hs : h[s]? = some (txt b at_)) (hk : at_ + 2 ≤ b.length) (hb : b.length < 2 ^ 60) :
    Ev E0 24 [.ref s 0] h (fun r h' => r = .ret (.tup []) ∧ h' = h.set s (txt b (cm b b.length (at_ + 2)))) := by
  refine ev_of (fn := Tryd.f24) (hs := []) Tryd.func24 c24 (by simp) fun hcl => ?_
  have hsl : s < h.length := (List.getElem?_eq_some_iff.1 hs).1
  have hw : IntKind.i64.wrap ((at_ : Int) + 2) = ((at_ + 2 : Nat) : Int) := by rw [wrap_i64] <;> omega
  generalize hR : cm b b.length (at_ + 2) = R
  simp only [ac24, hs, hw, ne_eq, not_false_eq_true, Option.map_some, Option.map_none, List.map_cons, List.map_nil, Bool.not_true, Bool.not_false, decide_true, decide_false, List.getElem?_cons_zero, List.getElem?_cons_succ, ↓aw1, ↓aw2, ↓aw17, aw3, aw4, aw5, aw6, aw7, aw8, aw9, aw10, aw11, aw12, aw13, aw14, aw15, aw16, Nat.reduceLeDiff, if_true, if_false, Nat.reduceEqDiff, Nat.reduceAdd, beq_self_eq_true, beq_true, beq_false, Bool.false_eq_true]
  refine LoopF.by (α := Nat × Nat) (fun x => ⟨[(0, .ref s 0)], h.set s (txt b x.1)⟩) (fun x => x.2)
    (fun x => b.length ≤ x.1 + x.2 ∧ x.1 ≤ b.length ∧ cm b x.2 x.1 = R)
    (at_ + 2, b.length) ⟨by simp <;> omega, by simp <;> omega, hR⟩ (weak_of rfl (by simp [look])) ?_
  rintro ⟨n, f⟩ ⟨h1, h2, h3⟩
  simp only at h1 h2 h3
  have hset : (h.set s (txt b n))[s]? = some (txt b n) := by rw [List.getElem?_set_self hsl]
  have hss : ∀ m, (h.set s (txt b n)).set s (txt b m) = h.set s (txt b m) := fun m => by rw [List.set_set]
  have hw1 : IntKind.i64.wrap ((n : Int) + 1) = ((n + 1 : Nat) : Int) := by rw [wrap_i64] <;> omega
  have hw2 : IntKind.i64.wrap ((n : Int) + 2) = ((n + 2 : Nat) : Int) := by rw [wrap_i64] <;> omega
  have lb : (byA b).length = b.length := by simp
  by_cases hn : b.length ≤ n
  · have e1 : decide ((n : Int) < (b.length : Int)) = false := by simp; omega
    simp only [hset, lb, e1, ne_eq, not_false_eq_true, Option.map_some, Option.map_none, List.map_cons, List.map_nil, Bool.not_true, Bool.not_false, decide_true, decide_false, List.getElem?_cons_zero, List.getElem?_cons_succ, ↓aw1, ↓aw2, ↓aw17, aw3, aw4, aw5, aw6, aw7, aw8, aw9, aw10, aw11, aw12, aw13, aw14, aw15, aw16, Nat.reduceLeDiff, if_true, if_false, Nat.reduceEqDiff, Nat.reduceAdd, beq_self_eq_true, beq_true, beq_false, Bool.false_eq_true]
    have : cm b f n = n := by cases f <;> simp [cm, hn]
    exact Fin.here (by simp) (closed_txt hcl) (by simp [AV.under, unders]) ⟨rfl, by rw [← h3, this]⟩
  obtain ⟨f, rfl⟩ : ∃ f', f = f' + 1 := ⟨f - 1, by omega⟩
  have e1 : decide ((n : Int) < (b.length : Int)) = true := by simp; omega
  simp only [cm, if_neg hn] at h3
  simp only [hset, lb, e1, ne_eq, not_false_eq_true, Option.map_some, Option.map_none, List.map_cons, List.map_nil, Bool.not_true, Bool.not_false, decide_true, decide_false, List.getElem?_cons_zero, List.getElem?_cons_succ, ↓aw1, ↓aw2, ↓aw17, aw3, aw4, aw5, aw6, aw7, aw8, aw9, aw10, aw11, aw12, aw13, aw14, aw15, aw16, Nat.reduceLeDiff, if_true, if_false, Nat.reduceEqDiff, Nat.reduceAdd, beq_self_eq_true, beq_true, beq_false, Bool.false_eq_true]
  refine Need.mk (by omega) fun c hc => ?_
  simp only [Int.toNat_natCast] at hc
  obtain ⟨x, hx, rfl⟩ : ∃ x, b[n]? = some x ∧ u8v x = c := by simpa [List.getElem?_map] using hc
  have hpc := pk_get hx
  simp only [hpc] at h3
  simp only [ne_eq, not_false_eq_true, Option.map_some, Option.map_none, List.map_cons, List.map_nil, Bool.not_true, Bool.not_false, decide_true, decide_false, List.getElem?_cons_zero, List.getElem?_cons_succ, ↓aw1, ↓aw2, ↓aw17, aw3, aw4, aw5, aw6, aw7, aw8, aw9, aw10, aw11, aw12, aw13, aw14, aw15, aw16, Nat.reduceLeDiff, if_true, if_false, Nat.reduceEqDiff, Nat.reduceAdd, beq_self_eq_true, beq_true, beq_false, Bool.false_eq_true]
  cases h10 : isC 10 x
  · have h10' : decide ((x.toNat : Int) = 10) = false := h10
    simp only [h10', hset, lb, ne_eq, not_false_eq_true, Option.map_some, Option.map_none, List.map_cons, List.map_nil, Bool.not_true, Bool.not_false, decide_true, decide_false, List.getElem?_cons_zero, List.getElem?_cons_succ, ↓aw1, ↓aw2, ↓aw17, aw3, aw4, aw5, aw6, aw7, aw8, aw9, aw10, aw11, aw12, aw13, aw14, aw15, aw16, Nat.reduceLeDiff, if_true, if_false, Nat.reduceEqDiff, Nat.reduceAdd, beq_self_eq_true, beq_true, beq_false, Bool.false_eq_true]
    refine EvF.ret (has_ev _ hset (by omega) hb) ?_
    cases hp : hasP (b.drop n) [45, 45]
    · have hp' : hasP (b.drop n) ((⟨#[45, 45]⟩ : ByteArray).data.toList) = false := hp
      simp only [hp', hset, lb, hw1, hss, ne_eq, not_false_eq_true, Option.map_some, Option.map_none, List.map_cons, List.map_nil, Bool.not_true, Bool.not_false, decide_true, decide_false, List.getElem?_cons_zero, List.getElem?_cons_succ, ↓aw1, ↓aw2, ↓aw17, aw3, aw4, aw5, aw6, aw7, aw8, aw9, aw10, aw11, aw12, aw13, aw14, aw15, aw16, Nat.reduceLeDiff, if_true, if_false, Nat.reduceEqDiff, Nat.reduceAdd, beq_self_eq_true, beq_true, beq_false, Bool.false_eq_true]
      simp [h10, hp] at h3
      exact ⟨(n + 1, f), ⟨by simp <;> omega, by simp <;> omega, h3⟩, by simp, weak_of rfl (by simp [look])⟩
    · have hp' : hasP (b.drop n) ((⟨#[45, 45]⟩ : ByteArray).data.toList) = true := hp
      simp only [hp', hset, lb, hw2, hss, ne_eq, not_false_eq_true, Option.map_some, Option.map_none, List.map_cons, List.map_nil, Bool.not_true, Bool.not_false, decide_true, decide_false, List.getElem?_cons_zero, List.getElem?_cons_succ, ↓aw1, ↓aw2, ↓aw17, aw3, aw4, aw5, aw6, aw7, aw8, aw9, aw10, aw11, aw12, aw13, aw14, aw15, aw16, Nat.reduceLeDiff, if_true, if_false, Nat.reduceEqDiff, Nat.reduceAdd, beq_self_eq_true, beq_true, beq_false, Bool.false_eq_true]
      simp [h10, hp] at h3
      exact Fin.here (by simp) (closed_txt hcl) (by simp [AV.under, unders]) ⟨rfl, by rw [← h3]⟩
  · have h10' : decide ((x.toNat : Int) = 10) = true := h10
    simp only [h10', hset, lb, hw1, hss, ne_eq, not_false_eq_true, Option.map_some, Option.map_none, List.map_cons, List.map_nil, Bool.not_true, Bool.not_false, decide_true, decide_false, List.getElem?_cons_zero, List.getElem?_cons_succ, ↓aw1, ↓aw2, ↓aw17, aw3, aw4, aw5, aw6, aw7, aw8, aw9, aw10, aw11, aw12, aw13, aw14, aw15, aw16, Nat.reduceLeDiff, if_true, if_false, Nat.reduceEqDiff, Nat.reduceAdd, beq_self_eq_true, beq_true, beq_false, Bool.false_eq_true]
    simp [h10] at h3
    exact Fin.here (by simp) (closed_txt hcl) (by simp [AV.under, unders]) ⟨rfl, by rw [← h3]⟩

theorem hasP_len {a p : List UInt8} (h : hasP a p = true) : p.length ≤ a.length := by
  simp [hasP] at h; exact h.1

theorem cm_bounds (b : List UInt8) : ∀ (f n : Nat), n ≤ b.length → n ≤ cm b f n ∧ cm b f n ≤ b.length
  | 0, n, h => ⟨Nat.le_refl _, h⟩
  | f + 1, n, h => by
    unfold cm
    split
    · exact ⟨Nat.le_refl _, h⟩
    · split
      · omega
      · split
        · rename_i hp
          have := hasP_len hp
          simp at this
          omega
        · have := cm_bounds b f (n + 1) (by omega)
          omega

def blank (c : UInt8) : Bool := isC 32 c || isC 9 c || isC 10 c || isC 13 c

/-- Where the blanks and comments end. -/
def sk (b : List UInt8) : Nat → Nat → Nat
  | 0, n => n
  | f + 1, n =>
    if b.length ≤ n then n
    else if blank (pk b n) then sk b f (n + 1)
    else if hasP (b.drop n) [45, 45] then sk b f (cm b b.length (n + 2))
    else n

theorem sk_bounds (b : List UInt8) : ∀ (f n : Nat), n ≤ b.length → n ≤ sk b f n ∧ sk b f n ≤ b.length
  | 0, n, h => ⟨Nat.le_refl _, h⟩
  | f + 1, n, h => by
    unfold sk
    split
    · exact ⟨Nat.le_refl _, h⟩
    · split
      · have := sk_bounds b f (n + 1) (by omega)
        omega
      · split
        · rename_i hp
          have h2 := hasP_len hp
          simp at h2
          have h3 := cm_bounds b b.length (n + 2) (by omega)
          have := sk_bounds b f _ h3.2
          omega
        · exact ⟨Nat.le_refl _, h⟩

theorem skip_ev {h : List AObj} {s : Nat} {b : List UInt8} {at_ : Nat} (hs : h[s]? = some (txt b at_)) (hk : at_ ≤ b.length) (hb : b.length < 2 ^ 60) :
    Ev E0 16 [.ref s 0] h (fun r h' => r = .ret (.tup []) ∧ h' = h.set s (txt b (sk b b.length at_))) := by
  refine ev_of (fn := Tryd.f16) (hs := []) Tryd.func16 c16 (by simp) fun hcl => ?_
  have hsl : s < h.length := (List.getElem?_eq_some_iff.1 hs).1
  generalize hR : sk b b.length at_ = R
  simp only [ac16, ne_eq, not_false_eq_true, Option.map_some, Option.map_none, List.map_cons, List.map_nil, Bool.not_true, Bool.not_false, decide_true, decide_false, List.getElem?_cons_zero, List.getElem?_cons_succ, ↓aw1, ↓aw2, ↓aw17, aw3, aw4, aw5, aw6, aw7, aw8, aw9, aw10, aw11, aw12, aw13, aw14, aw15, aw16, Nat.reduceLeDiff, if_true, if_false, Nat.reduceEqDiff, Nat.reduceAdd, beq_self_eq_true, beq_true, beq_false, Bool.false_eq_true]
  have hself : h.set s (txt b at_) = h := set_same hs
  refine LoopF.by (α := Nat × Nat) (fun x => ⟨[(0, .ref s 0)], h.set s (txt b x.1)⟩) (fun x => x.2)
    (fun x => b.length ≤ x.1 + x.2 ∧ x.1 ≤ b.length ∧ sk b x.2 x.1 = R)
    (at_, b.length) ⟨by simp <;> omega, by simp <;> omega, hR⟩ (weak_of hself (by simp [look])) ?_
  rintro ⟨n, f⟩ ⟨h1, h2, h3⟩
  simp only at h1 h2 h3
  have hset : (h.set s (txt b n))[s]? = some (txt b n) := by rw [List.getElem?_set_self hsl]
  have hss : ∀ m, (h.set s (txt b n)).set s (txt b m) = h.set s (txt b m) := fun m => by rw [List.set_set]
  have hw1 : IntKind.i64.wrap ((n : Int) + 1) = ((n + 1 : Nat) : Int) := by rw [wrap_i64] <;> omega
  have lb : (byA b).length = b.length := by simp
  by_cases hn : b.length ≤ n
  · have e1 : decide ((n : Int) < (b.length : Int)) = false := by simp; omega
    simp only [hset, lb, e1, ne_eq, not_false_eq_true, Option.map_some, Option.map_none, List.map_cons, List.map_nil, Bool.not_true, Bool.not_false, decide_true, decide_false, List.getElem?_cons_zero, List.getElem?_cons_succ, ↓aw1, ↓aw2, ↓aw17, aw3, aw4, aw5, aw6, aw7, aw8, aw9, aw10, aw11, aw12, aw13, aw14, aw15, aw16, Nat.reduceLeDiff, if_true, if_false, Nat.reduceEqDiff, Nat.reduceAdd, beq_self_eq_true, beq_true, beq_false, Bool.false_eq_true]
    have : sk b f n = n := by cases f <;> simp [sk, hn]
    exact Fin.here (by simp) (closed_txt hcl) (by simp [AV.under, unders]) ⟨rfl, by rw [← h3, this]⟩
  obtain ⟨f, rfl⟩ : ∃ f', f = f' + 1 := ⟨f - 1, by omega⟩
  have e1 : decide ((n : Int) < (b.length : Int)) = true := by simp; omega
  simp only [sk, if_neg hn] at h3
  simp only [hset, lb, e1, ne_eq, not_false_eq_true, Option.map_some, Option.map_none, List.map_cons, List.map_nil, Bool.not_true, Bool.not_false, decide_true, decide_false, List.getElem?_cons_zero, List.getElem?_cons_succ, ↓aw1, ↓aw2, ↓aw17, aw3, aw4, aw5, aw6, aw7, aw8, aw9, aw10, aw11, aw12, aw13, aw14, aw15, aw16, Nat.reduceLeDiff, if_true, if_false, Nat.reduceEqDiff, Nat.reduceAdd, beq_self_eq_true, beq_true, beq_false, Bool.false_eq_true]
  refine Need.mk (by omega) fun c hc => ?_
  simp only [Int.toNat_natCast] at hc
  obtain ⟨x, hx, rfl⟩ : ∃ x, b[n]? = some x ∧ u8v x = c := by simpa [List.getElem?_map] using hc
  have hpc := pk_get hx
  simp only [hpc] at h3
  have again : ∀ σ m, n < m → m ≤ b.length → σ.heap = h.set s (txt b m) → look σ.tmps 0 = .ref s 0 → sk b f m = R →
      ∃ y : Nat × Nat, (b.length ≤ y.1 + y.2 ∧ y.1 ≤ b.length ∧ sk b y.2 y.1 = R) ∧ y.2 < f + 1 ∧ Weak σ ⟨[(0, .ref s 0)], h.set s (txt b y.1)⟩ :=
    fun σ m g1 g2 hh hl hr => ⟨(m, f), ⟨by simp; omega, g2, hr⟩, by simp, weak_of hh.symm (by simp [hl])⟩
  cases d1 : isC 32 x
  · have d1' : decide ((x.toNat : Int) = 32) = false := d1
    cases d2 : isC 9 x
    · have d2' : decide ((x.toNat : Int) = 9) = false := d2
      cases d3 : isC 10 x
      · have d3' : decide ((x.toNat : Int) = 10) = false := d3
        cases d4 : isC 13 x
        · have d4' : decide ((x.toNat : Int) = 13) = false := d4
          simp only [d1', d2', d3', d4', hset, lb, hw1, hss, ne_eq, not_false_eq_true, Option.map_some, Option.map_none, List.map_cons, List.map_nil, Bool.not_true, Bool.not_false, decide_true, decide_false, List.getElem?_cons_zero, List.getElem?_cons_succ, ↓aw1, ↓aw2, ↓aw17, aw3, aw4, aw5, aw6, aw7, aw8, aw9, aw10, aw11, aw12, aw13, aw14, aw15, aw16, Nat.reduceLeDiff, if_true, if_false, Nat.reduceEqDiff, Nat.reduceAdd, beq_self_eq_true, beq_true, beq_false, Bool.false_eq_true]
          refine EvF.ret (has_ev _ hset (by omega) hb) ?_
          cases hp : hasP (b.drop n) [45, 45]
          · have hp' : hasP (b.drop n) ((⟨#[45, 45]⟩ : ByteArray).data.toList) = false := hp
            simp only [hp', hset, lb, hw1, hss, ne_eq, not_false_eq_true, Option.map_some, Option.map_none, List.map_cons, List.map_nil, Bool.not_true, Bool.not_false, decide_true, decide_false, List.getElem?_cons_zero, List.getElem?_cons_succ, ↓aw1, ↓aw2, ↓aw17, aw3, aw4, aw5, aw6, aw7, aw8, aw9, aw10, aw11, aw12, aw13, aw14, aw15, aw16, Nat.reduceLeDiff, if_true, if_false, Nat.reduceEqDiff, Nat.reduceAdd, beq_self_eq_true, beq_true, beq_false, Bool.false_eq_true]
            simp [blank, d1, d2, d3, d4, hp] at h3
            exact Fin.here (by simp) (closed_txt hcl) (by simp [AV.under, unders]) ⟨rfl, by rw [← h3]⟩
          · have hp' : hasP (b.drop n) ((⟨#[45, 45]⟩ : ByteArray).data.toList) = true := hp
            have hpl := hasP_len hp
            simp at hpl
            have hcb := cm_bounds b b.length (n + 2) (by omega)
            simp [blank, d1, d2, d3, d4, hp] at h3
            simp only [hp', hset, lb, hw1, hss, ne_eq, not_false_eq_true, Option.map_some, Option.map_none, List.map_cons, List.map_nil, Bool.not_true, Bool.not_false, decide_true, decide_false, List.getElem?_cons_zero, List.getElem?_cons_succ, ↓aw1, ↓aw2, ↓aw17, aw3, aw4, aw5, aw6, aw7, aw8, aw9, aw10, aw11, aw12, aw13, aw14, aw15, aw16, Nat.reduceLeDiff, if_true, if_false, Nat.reduceEqDiff, Nat.reduceAdd, beq_self_eq_true, beq_true, beq_false, Bool.false_eq_true]
            refine EvF.use (comment_ev hset (by omega) hb) ?_
            rintro r h' ⟨rfl, rfl⟩
            simp only [hss, ne_eq, not_false_eq_true, Option.map_some, Option.map_none, List.map_cons, List.map_nil, Bool.not_true, Bool.not_false, decide_true, decide_false, List.getElem?_cons_zero, List.getElem?_cons_succ, ↓aw1, ↓aw2, ↓aw17, aw3, aw4, aw5, aw6, aw7, aw8, aw9, aw10, aw11, aw12, aw13, aw14, aw15, aw16, Nat.reduceLeDiff, if_true, if_false, Nat.reduceEqDiff, Nat.reduceAdd, beq_self_eq_true, beq_true, beq_false, Bool.false_eq_true]
            exact again _ _ (by omega) hcb.2 rfl (by simp [look]) h3
        · have d4' : decide ((x.toNat : Int) = 13) = true := d4
          simp only [d1', d2', d3', d4', hset, lb, hw1, hss, ne_eq, not_false_eq_true, Option.map_some, Option.map_none, List.map_cons, List.map_nil, Bool.not_true, Bool.not_false, decide_true, decide_false, List.getElem?_cons_zero, List.getElem?_cons_succ, ↓aw1, ↓aw2, ↓aw17, aw3, aw4, aw5, aw6, aw7, aw8, aw9, aw10, aw11, aw12, aw13, aw14, aw15, aw16, Nat.reduceLeDiff, if_true, if_false, Nat.reduceEqDiff, Nat.reduceAdd, beq_self_eq_true, beq_true, beq_false, Bool.false_eq_true]
          simp [blank, d1, d2, d3, d4] at h3
          exact again _ _ (by omega) (by omega) rfl (by simp [look]) h3
      · have d3' : decide ((x.toNat : Int) = 10) = true := d3
        simp only [d1', d2', d3', hset, lb, hw1, hss, ne_eq, not_false_eq_true, Option.map_some, Option.map_none, List.map_cons, List.map_nil, Bool.not_true, Bool.not_false, decide_true, decide_false, List.getElem?_cons_zero, List.getElem?_cons_succ, ↓aw1, ↓aw2, ↓aw17, aw3, aw4, aw5, aw6, aw7, aw8, aw9, aw10, aw11, aw12, aw13, aw14, aw15, aw16, Nat.reduceLeDiff, if_true, if_false, Nat.reduceEqDiff, Nat.reduceAdd, beq_self_eq_true, beq_true, beq_false, Bool.false_eq_true]
        simp [blank, d1, d2, d3] at h3
        exact again _ _ (by omega) (by omega) rfl (by simp [look]) h3
    · have d2' : decide ((x.toNat : Int) = 9) = true := d2
      simp only [d1', d2', hset, lb, hw1, hss, ne_eq, not_false_eq_true, Option.map_some, Option.map_none, List.map_cons, List.map_nil, Bool.not_true, Bool.not_false, decide_true, decide_false, List.getElem?_cons_zero, List.getElem?_cons_succ, ↓aw1, ↓aw2, ↓aw17, aw3, aw4, aw5, aw6, aw7, aw8, aw9, aw10, aw11, aw12, aw13, aw14, aw15, aw16, Nat.reduceLeDiff, if_true, if_false, Nat.reduceEqDiff, Nat.reduceAdd, beq_self_eq_true, beq_true, beq_false, Bool.false_eq_true]
      simp [blank, d1, d2] at h3
      exact again _ _ (by omega) (by omega) rfl (by simp [look]) h3
  · have d1' : decide ((x.toNat : Int) = 32) = true := d1
    simp only [d1', hset, lb, hw1, hss, ne_eq, not_false_eq_true, Option.map_some, Option.map_none, List.map_cons, List.map_nil, Bool.not_true, Bool.not_false, decide_true, decide_false, List.getElem?_cons_zero, List.getElem?_cons_succ, ↓aw1, ↓aw2, ↓aw17, aw3, aw4, aw5, aw6, aw7, aw8, aw9, aw10, aw11, aw12, aw13, aw14, aw15, aw16, Nat.reduceLeDiff, if_true, if_false, Nat.reduceEqDiff, Nat.reduceAdd, beq_self_eq_true, beq_true, beq_false, Bool.false_eq_true]
    simp [blank, d1] at h3
    exact again _ _ (by omega) (by omega) rfl (by simp [look]) h3
end Go.Abs.T7
