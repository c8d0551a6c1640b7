/- All tokens. -/
import Derived.Test.YtenhfnadhmjloaaDoorT7J
set_option linter.all false
namespace Go.Abs.T7
open Go Go.Abs Go.Proofs
set_option linter.unusedSimpArgs false

theorem nx_place (b : List UInt8) (at_ : Nat) : (nx b at_).1.place = at_ := by
  unfold nx
  repeat' split
  all_goals rfl

theorem qt_gt {b : List UInt8} {at_ : Nat} : ∀ (f n : Nat) (out : List UInt8), (qtt (qt b at_ f n out)).2.2 = true → n < (qtt (qt b at_ f n out)).2.1
  | 0, _, _ => by simp [qt, qtt]
  | f + 1, n, out => by
    unfold qt
    split
    · simp [qtt]
    · split
      · split
        · intro h; have := qt_gt f (n + 2) _ h; omega
        · simp [qtt]
      · split
        · simp [qtt]
        · intro h; have := qt_gt f (n + 1) _ h; omega

theorem wl_gt {p : Nat → UInt8} : ∀ (f n : Nat), n ≤ (wl p f n).1
  | 0, n => Nat.le_refl _
  | f + 1, n => by
    unfold wl
    split
    · have := wl_gt (p := p) f (n + 1); omega
    · split
      · exact Nat.le_refl _
      · split
        · exact Nat.le_refl _
        · have := wl_gt (p := p) f (n + 1); omega

theorem sgs_pos : ∀ x, x ∈ sgs → 1 ≤ x.size := by
  have : sgs.all (fun x => decide (1 ≤ x.size)) = true := by decide
  intro x hx
  simpa using List.all_eq_true.1 this x hx

theorem sg_mem {d : List UInt8} : ∀ {l : List ByteArray} {x : ByteArray}, sg d l = some x → x ∈ l ∧ hasP d x.data.toList = true
  | [], x, h => by simp [sg] at h
  | y :: l, x, h => by
    simp only [sg] at h
    split at h
    · rename_i hp; cases h; exact ⟨by simp, hp⟩
    · have := sg_mem h; exact ⟨by simp [this.1], this.2⟩

theorem nt_gt {b : List UInt8} {at_ : Nat} (hk : at_ < b.length) (hc : (isDig (pk b at_) || (isC 45 (pk b at_) && isDig (pk b (at_ + 1)))) = true) (hok : (nt b at_).2.2 = true) : 1 ≤ (nt b at_).2.1 := by
  unfold nt at hok ⊢
  dsimp only at hok ⊢
  split at hok
  · cases hok
  · rename_i hne
    rw [if_neg hne]
    have hN : 1 ≤ dg (fun k => pk b (at_ + k)) (b.length + 2) (fst fun k => pk b (at_ + k)) := by
      unfold fst
      split
      · exact (dg_bounds (b := b) (at_ := at_) (b.length + 2) 1 (by omega)).1
      · rename_i h45
        have hd : isDig (pk b (at_ + 0)) = true := by
          have h45' : isC 45 (pk b at_) = false := by simpa using h45
          simpa [h45'] using hc
        unfold dg
        rw [if_pos hd]
        exact (dg_bounds (b := b) (at_ := at_) (b.length + 1) 1 (by omega)).1
    unfold numt
    split <;> exact hN

theorem nx_bounds {b : List UInt8} {at_ : Nat} (hk : at_ < b.length) (hok : (nx b at_).2.2 = true) : at_ < (nx b at_).2.1 ∧ (nx b at_).2.1 ≤ b.length := by
  unfold nx at hok ⊢
  split at hok
  · rename_i hl
    rw [if_pos hl]
    split at hok
    · rename_i hw
      rw [if_pos hw]
      have h1 := wl_gt (p := fun k => pk b (at_ + k)) (b.length + 1) 1
      have h2 := wl_le (b := b) (at_ := at_) (b.length + 1) 1 (by omega)
      simp only
      omega
    · cases hok
  · rename_i hl
    rw [if_neg hl]
    split at hok
    · rename_i hd
      rw [if_pos hd]
      simp only at hok ⊢
      rw [if_pos hok]
      have h1 := nt_gt hk hd hok
      have h2 := nt_le hk
      omega
    · rename_i hd
      rw [if_neg hd]
      split at hok
      · rename_i hq
        rw [if_pos hq]
        simp only at hok ⊢
        rw [if_pos hok]
        have h1 := qt_gt _ _ _ hok
        have h2 := (qt_le (b := b) (at_ := at_) (b.length + 2) 1 []).resolve_right (by omega)
        omega
      · rename_i hq
        rw [if_neg hq]
        split at hok
        · rename_i x hx
          simp only [hx]
          have h1 := sg_mem hx
          have h2 := sgs_pos x h1.1
          have h3 := hasP_len h1.2
          simp at h3
          have : x.size = x.data.size := rfl
          omega
        · cases hok

/-- The tokens from a place on; the place where it ends; 0, or what is wrong. -/
def scn (b : List UInt8) : Nat → Nat → List Tok → List Tok × Nat × Nat
  | 0, at_, out => (out, at_, 0)
  | f + 1, at_, out =>
    if b.length ≤ at_ then (out, at_, 0)
    else if (nx b at_).2.2 then scn b f (sk b b.length (nx b at_).2.1) (out ++ [(nx b at_).1])
    else ([], at_, 6)

def scan (b : List UInt8) : List Tok × Nat × Nat := if 65536 < b.length then ([], 0, 11) else scn b (b.length + 1) (sk b b.length 0) []

theorem app2 (h : List AObj) (a o : AObj) (J : List AObj) : (h ++ a :: J) ++ [o] = h ++ a :: (J ++ [o]) := by simp

theorem tok_under (n : Nat) (c : Cap) (l : List Tok) : AV.under n (.sl c (l.map tokv)) = true := by
  simp only [AV.under]
  exact unders_of fun av hav => by obtain ⟨t, _, rfl⟩ := List.mem_map.1 hav; rfl

theorem tup3_under (n : Nat) (c : Cap) (l : List Tok) (x y : Value) : AV.under n (.tup [.sl c (l.map tokv), .lit x, .lit y]) = true := by
  have := tok_under n c l
  simp only [AV.under] at this
  simp [AV.under, unders, this]

set_option maxHeartbeats 1000000 in
theorem scan_ev {h : List AObj} (b : List UInt8) (hb : b.length < 2 ^ 40) :
    Ev E0 12 [.sl .unk (byA b)] h (fun r h' => (∃ c, (c = .unk ∨ c = .full) ∧ r = .ret (.tup [.sl c ((scan b).1.map tokv), i64 (scan b).2.1, i64 (scan b).2.2])) ∧ h' = h) := by
  refine ev_of (fn := Tryd.f12) (hs := [(11, 0), (11, 4)]) Tryd.func12 c12 (by simp) fun hcl => ?_
  have lb : (byA b).length = b.length := by simp
  unfold scan
  by_cases hbig : 65536 < b.length
  · have e0 : decide ((65536 : Int) < (b.length : Int)) = true := by simp; omega
    rw [if_pos hbig]
    simp only [ac12, lb, e0, ne_eq, not_false_eq_true, Option.map_some, Option.map_none, List.map_cons, List.map_nil, Bool.not_true, Bool.not_false, decide_true, decide_false, List.getElem?_cons_zero, List.getElem?_cons_succ, ↓aw1, ↓aw2, ↓aw17, aw3, aw4, aw5, aw6, aw7, aw8, aw9, aw10, aw11, aw12, aw13, aw14, aw15, aw16, Nat.reduceLeDiff, if_true, if_false, Nat.reduceEqDiff, Nat.reduceAdd, beq_self_eq_true, beq_true, beq_false, Bool.false_eq_true]
    exact Fin.same0 hcl rfl ⟨⟨.full, .inr rfl, rfl⟩, rfl⟩
  have e0 : decide ((65536 : Int) < (b.length : Int)) = false := by simp; omega
  rw [if_neg hbig]
  generalize hR : scn b (b.length + 1) (sk b b.length 0) [] = R
  simp only [ac12, lb, e0, ne_eq, not_false_eq_true, Option.map_some, Option.map_none, List.map_cons, List.map_nil, Bool.not_true, Bool.not_false, decide_true, decide_false, List.getElem?_cons_zero, List.getElem?_cons_succ, ↓aw1, ↓aw2, ↓aw17, aw3, aw4, aw5, aw6, aw7, aw8, aw9, aw10, aw11, aw12, aw13, aw14, aw15, aw16, Nat.reduceLeDiff, if_true, if_false, Nat.reduceEqDiff, Nat.reduceAdd, beq_self_eq_true, beq_true, beq_false, Bool.false_eq_true]
  refine EvF.use (skip_ev (get0 h (txt b 0) []) (by omega) (by omega)) ?_
  rintro r h' ⟨rfl, rfl⟩
  simp only [set0, ne_eq, not_false_eq_true, Option.map_some, Option.map_none, List.map_cons, List.map_nil, Bool.not_true, Bool.not_false, decide_true, decide_false, List.getElem?_cons_zero, List.getElem?_cons_succ, ↓aw1, ↓aw2, ↓aw17, aw3, aw4, aw5, aw6, aw7, aw8, aw9, aw10, aw11, aw12, aw13, aw14, aw15, aw16, Nat.reduceLeDiff, if_true, if_false, Nat.reduceEqDiff, Nat.reduceAdd, beq_self_eq_true, beq_true, beq_false, Bool.false_eq_true]
  have hsb := sk_bounds b b.length 0 (by omega)
  refine LoopF.by (α := (Nat × Nat) × Cap × List Tok × List AObj) (fun x => ⟨[(5, .ref h.length 0), (6, .sl x.2.1 (x.2.2.1.map tokv))], h ++ txt b x.1.1 :: x.2.2.2⟩) (fun x => x.1.2)
    (fun x => (x.1.1 ≤ b.length ∧ b.length < x.1.1 + x.1.2) ∧ scn b x.1.2 x.1.1 x.2.2.1 = R ∧ x.2.2.1.length ≤ x.1.1 ∧ (x.2.1 = .own 4 ∨ x.2.1 = .full))
    ((sk b b.length 0, b.length + 1), .full, [], []) ⟨⟨hsb.2, by simp; omega⟩, hR, by simp, .inr rfl⟩ (weak_of rfl (by simp [look])) ?_
  rintro ⟨⟨at_, f⟩, c, out, J⟩ ⟨⟨h1, h2⟩, h3, h4, h5⟩
  simp only at h1 h2 h3 h4 h5
  have hcap : AV.strip (.sl c (out.map tokv)) = .sl .unk (out.map tokv) ∨ AV.strip (.sl c (out.map tokv)) = .sl .full (out.map tokv) := by
    rcases h5 with rfl | rfl
    · exact .inl rfl
    · exact .inr rfl
  by_cases hn : b.length ≤ at_
  · have e1 : decide ((at_ : Int) < (b.length : Int)) = false := by simp; omega
    have hR' : R = (out, at_, 0) := by rw [← h3]; cases f <;> simp [scn, hn]
    subst hR'
    simp only [get0, lb, e1, ne_eq, not_false_eq_true, Option.map_some, Option.map_none, List.map_cons, List.map_nil, Bool.not_true, Bool.not_false, decide_true, decide_false, List.getElem?_cons_zero, List.getElem?_cons_succ, ↓aw1, ↓aw2, ↓aw17, aw3, aw4, aw5, aw6, aw7, aw8, aw9, aw10, aw11, aw12, aw13, aw14, aw15, aw16, Nat.reduceLeDiff, if_true, if_false, Nat.reduceEqDiff, Nat.reduceAdd, beq_self_eq_true, beq_true, beq_false, Bool.false_eq_true]
    rcases h5 with rfl | rfl
    · exact Fin.junk (junk := txt b at_ :: J) rfl (by simp) hcl (tup3_under _ _ _ _ _) ⟨⟨.unk, .inl rfl, rfl⟩, rfl⟩
    · exact Fin.junk (junk := txt b at_ :: J) rfl (by simp) hcl (tup3_under _ _ _ _ _) ⟨⟨.full, .inr rfl, rfl⟩, rfl⟩
  obtain ⟨f, rfl⟩ : ∃ f', f = f' + 1 := ⟨f - 1, by omega⟩
  have e1 : decide ((at_ : Int) < (b.length : Int)) = true := by simp; omega
  simp only [scn, if_neg hn] at h3
  simp only [get0, lb, e1, ne_eq, not_false_eq_true, Option.map_some, Option.map_none, List.map_cons, List.map_nil, Bool.not_true, Bool.not_false, decide_true, decide_false, List.getElem?_cons_zero, List.getElem?_cons_succ, ↓aw1, ↓aw2, ↓aw17, aw3, aw4, aw5, aw6, aw7, aw8, aw9, aw10, aw11, aw12, aw13, aw14, aw15, aw16, Nat.reduceLeDiff, if_true, if_false, Nat.reduceEqDiff, Nat.reduceAdd, beq_self_eq_true, beq_true, beq_false, Bool.false_eq_true]
  refine EvF.use (next_ev (get0 _ _ _) (by omega) (by omega)) ?_
  rintro r h' ⟨rfl, rfl⟩
  have hpl := nx_place b at_
  have hbd := nx_bounds (b := b) (at_ := at_) (by omega)
  generalize hX : nx b at_ = X at h3 hpl hbd
  obtain ⟨t, m, ok⟩ := X
  simp only at h3 hpl hbd
  cases ok
  · simp only [tokv, set0, get0, ne_eq, not_false_eq_true, Option.map_some, Option.map_none, List.map_cons, List.map_nil, Bool.not_true, Bool.not_false, decide_true, decide_false, List.getElem?_cons_zero, List.getElem?_cons_succ, ↓aw1, ↓aw2, ↓aw17, aw3, aw4, aw5, aw6, aw7, aw8, aw9, aw10, aw11, aw12, aw13, aw14, aw15, aw16, Nat.reduceLeDiff, if_true, if_false, Nat.reduceEqDiff, Nat.reduceAdd, beq_self_eq_true, beq_true, beq_false, Bool.false_eq_true]
    simp at h3
    subst h3
    refine Fin.junk (junk := txt b m :: (J ++ [.cells [i64 t.kind, .lit (.string ⟨t.text.toArray⟩), i64 t.n, i64 t.place]])) (by simp) (by simp) hcl rfl ⟨⟨.full, .inr rfl, ?_⟩, rfl⟩
    rw [hpl]; rfl
  · simp only [tokv, set0, get0, ne_eq, not_false_eq_true, Option.map_some, Option.map_none, List.map_cons, List.map_nil, Bool.not_true, Bool.not_false, decide_true, decide_false, List.getElem?_cons_zero, List.getElem?_cons_succ, ↓aw1, ↓aw2, ↓aw17, aw3, aw4, aw5, aw6, aw7, aw8, aw9, aw10, aw11, aw12, aw13, aw14, aw15, aw16, Nat.reduceLeDiff, if_true, if_false, Nat.reduceEqDiff, Nat.reduceAdd, beq_self_eq_true, beq_true, beq_false, Bool.false_eq_true]
    simp at h3
    obtain ⟨hb1, hb2⟩ := hbd rfl
    refine Need.mk ⟨rfl, by decide, by decide, fun p hp => by simp only [List.mem_singleton] at hp; subst hp; exact ⟨rfl, rfl, rfl⟩⟩ ?_
    simp only [ne_eq, not_false_eq_true, Option.map_some, Option.map_none, List.map_cons, List.map_nil, Bool.not_true, Bool.not_false, decide_true, decide_false, List.getElem?_cons_zero, List.getElem?_cons_succ, ↓aw1, ↓aw2, ↓aw17, aw3, aw4, aw5, aw6, aw7, aw8, aw9, aw10, aw11, aw12, aw13, aw14, aw15, aw16, Nat.reduceLeDiff, if_true, if_false, Nat.reduceEqDiff, Nat.reduceAdd, beq_self_eq_true, beq_true, beq_false, Bool.false_eq_true]
    refine Need.mk ⟨by decide, ?_, ?_, ?_, ?_, ?_⟩ ?_
    · rcases h5 with rfl | rfl
      · exact .inl rfl
      · exact .inr ⟨rfl, by intro e he; obtain ⟨t, _, rfl⟩ := List.mem_map.1 he; exact ⟨rfl, rfl⟩⟩
    · intro e he; simp only [List.mem_singleton] at he; subst he; exact ⟨rfl, rfl⟩
    · intro e he; simp only [List.mem_singleton] at he; subst he; rfl
    · simp; omega
    · simp; omega
    simp only [ne_eq, not_false_eq_true, Option.map_some, Option.map_none, List.map_cons, List.map_nil, Bool.not_true, Bool.not_false, decide_true, decide_false, List.getElem?_cons_zero, List.getElem?_cons_succ, ↓aw1, ↓aw2, ↓aw17, aw3, aw4, aw5, aw6, aw7, aw8, aw9, aw10, aw11, aw12, aw13, aw14, aw15, aw16, Nat.reduceLeDiff, if_true, if_false, Nat.reduceEqDiff, Nat.reduceAdd, beq_self_eq_true, beq_true, beq_false, Bool.false_eq_true]
    refine EvF.use (skip_ev (b := b) (at_ := m) (by rw [app2]; exact get0 _ _ _) hb2 (by omega)) ?_
    rintro r h' ⟨rfl, rfl⟩
    have hsk := sk_bounds b b.length m hb2
    simp only [ne_eq, not_false_eq_true, Option.map_some, Option.map_none, List.map_cons, List.map_nil, Bool.not_true, Bool.not_false, decide_true, decide_false, List.getElem?_cons_zero, List.getElem?_cons_succ, ↓aw1, ↓aw2, ↓aw17, aw3, aw4, aw5, aw6, aw7, aw8, aw9, aw10, aw11, aw12, aw13, aw14, aw15, aw16, Nat.reduceLeDiff, if_true, if_false, Nat.reduceEqDiff, Nat.reduceAdd, beq_self_eq_true, beq_true, beq_false, Bool.false_eq_true]
    refine ⟨((sk b b.length m, f), .own 4, out ++ [t], J ++ [.cells [i64 t.kind, .lit (.string ⟨t.text.toArray⟩), i64 t.n, i64 t.place]]), ⟨⟨hsk.2, by simp; omega⟩, h3, by simp; omega, .inl rfl⟩, by simp, weak_of ?_ ?_⟩
    · simp only [app2, set0]
    · simp [look, tokv]
      exact ⟨rfl, rfl, rfl, rfl⟩
end Go.Abs.T7
