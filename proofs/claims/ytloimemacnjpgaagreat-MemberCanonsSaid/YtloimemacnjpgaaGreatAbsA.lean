/- Abstract values, abstract states, their relation to the machine's worlds. -/
import Derived.Orders
import Derived.WalkKit
set_option linter.all false
namespace Go.Abs
open Go

inductive Cap where
  | unk | full | own (k : Nat)
  deriving DecidableEq, Inhabited

inductive AV where
  | any
  | lit (v : Value)
  | agg (cs : List AV)
  | tup (vs : List AV)
  | sl (c : Cap) (es : List AV)
  | cp (cs : List AV)
  | ref (id off : Nat)
  | vw (id off len cap : Nat)
  | fn (f : Fn) (first caps : List AV)
  | ifc (t : TypeId) (v : AV)
  | mp (id : Nat)
  | bp (e : TypeId)
  | buf (te : TypeId) (l : List UInt8)
  deriving Inhabited

def AV.cells : AV → List AV
  | .agg cs => cs
  | v => [v]

def AV.strip : AV → AV
  | .sl (.own _) es => .sl .unk es
  | .bp _ => .any
  | .buf _ _ => .any
  | v => v

inductive Slot where
  | tmp (i : Nat)
  | cell (id off : Nat)
  deriving DecidableEq

inductive Own where
  | none | com | obj (id : Nat) | sp (s : Slot)
  deriving DecidableEq

structure Gh where
  own : Nat → Nat → Own
  loc : Nat → Nat

def Holds (w : World) (g : Gh) (b off : Nat) (vs : List Value) : Prop :=
  ∀ j u, vs[j]? = some u → w.cell? ⟨b, off + j, none⟩ = some u ∧ g.own b (off + j) = .com

mutual
def Rep (w : World) (g : Gh) (n : Nat) : AV → Value → Prop
  | .any, _ => True
  | .lit v, x => x = v
  | .agg cs, x => ∃ vs, x = .agg vs ∧ Reps w g n cs vs.toList
  | .tup cs, x => ∃ vs, x = .tuple vs ∧ Reps w g n cs vs.toList
  | .sl c es, x => ∃ base len cap, x = .slice base len cap ∧ es.length = len ∧ len ≤ cap ∧ (c = .full → cap = len) ∧
      (base = none → cap = 0) ∧ (∀ a, base = some a → (0 < cap → a.spot = none) ∧ ∃ k, Els w g n es a.block a.off k)
  | .cp cs, x => ∃ b off vs, x = .pointer (some ⟨b, off, none⟩) ∧ Holds w g b off vs ∧ Reps w g n cs vs
  | .ref id off, x => x = .pointer (some ⟨g.loc id, off, none⟩) ∧ id < n
  | .vw id off len cap, x => x = .slice (some ⟨g.loc id, off, none⟩) len cap ∧ id < n ∧ len ≤ cap
  | .fn f first caps, x => ∃ fa ca, x = .func f fa ca ∧ Reps w g n first fa.toList ∧ Reps w g n caps ca.toList
  | .ifc t v, x => ∃ y, x = .iface t y ∧ Rep w g n v y
  | .mp id, x => x = .map (some (g.loc id)) ∧ id < n
  | .bp _, _ => True
  | .buf _ _, _ => True
def Reps (w : World) (g : Gh) (n : Nat) : List AV → List Value → Prop
  | [], vs => vs = []
  | a :: as, vs => ∃ v rest, vs = v :: rest ∧ Rep w g n a v ∧ Reps w g n as rest
def Els (w : World) (g : Gh) (n : Nat) : List AV → (b off k : Nat) → Prop
  | [], _, _, _ => True
  | e :: es, b, off, k => (∃ v, Rep w g n e v ∧ v.cells.size = k ∧ Holds w g b off v.cells.toList) ∧ Els w g n es b (off + k) k
end

structure Later (w : World) (g : Gh) (n : Nat) (w' : World) (g' : Gh) (n' : Nat) : Prop where
  le : n ≤ n'
  loc : ∀ id, id < n → g'.loc id = g.loc id
  com : ∀ b off u, w.cell? ⟨b, off, none⟩ = some u → g.own b off = .com → w'.cell? ⟨b, off, none⟩ = some u ∧ g'.own b off = .com
  blk : ∀ b o, w.heap[b]? = some o → (∀ off, g.own b off = .com) → w'.heap[b]? = some o ∧ ∀ off, g'.own b off = .com

theorem Later.refl (w : World) (g : Gh) (n : Nat) : Later w g n w g n := ⟨Nat.le_refl _, fun _ _ => rfl, fun _ _ _ h h' => ⟨h, h'⟩, fun _ _ h h' => ⟨h, h'⟩⟩
theorem Later.trans {w g n w' g' n' w'' g'' n''} (h : Later w g n w' g' n') (h' : Later w' g' n' w'' g'' n'') : Later w g n w'' g'' n'' :=
  ⟨Nat.le_trans h.le h'.le, fun id hi => (h'.loc id (Nat.lt_of_lt_of_le hi h.le)).trans (h.loc id hi),
   fun b off u hc ho => let ⟨h1, h2⟩ := h.com b off u hc ho; h'.com b off u h1 h2, fun b o hc ho => let ⟨h1, h2⟩ := h.blk b o hc ho; h'.blk b o h1 h2⟩

theorem Holds.later {w g n w' g' n'} (hl : Later w g n w' g' n') {b off vs} (h : Holds w g b off vs) : Holds w' g' b off vs :=
  fun j u hj => let ⟨h1, h2⟩ := h j u hj; hl.com _ _ _ h1 h2

mutual
theorem Rep.later {w g n w' g' n'} (hl : Later w g n w' g' n') : ∀ (av : AV) (v : Value), Rep w g n av v → Rep w' g' n' av v
  | .any, _, _ => by simp [Rep]
  | .lit _, _, h => by simpa [Rep] using h
  | .agg cs, v, h => by
    simp only [Rep] at h ⊢
    obtain ⟨vs, rfl, h⟩ := h
    exact ⟨vs, rfl, Reps.later hl cs _ h⟩
  | .tup cs, v, h => by
    simp only [Rep] at h ⊢
    obtain ⟨vs, rfl, h⟩ := h
    exact ⟨vs, rfl, Reps.later hl cs _ h⟩
  | .sl c es, v, h => by
    simp only [Rep] at h ⊢
    obtain ⟨base, len, cap, rfl, h1, h2, h3, h4, h5⟩ := h
    exact ⟨base, len, cap, rfl, h1, h2, h3, h4, fun a ha => let ⟨h6, k, h7⟩ := h5 a ha; ⟨h6, k, Els.later hl es _ _ _ h7⟩⟩
  | .cp cs, v, h => by
    simp only [Rep] at h ⊢
    obtain ⟨b, off, vs, rfl, h1, h2⟩ := h
    exact ⟨b, off, vs, rfl, h1.later hl, Reps.later hl cs _ h2⟩
  | .ref id off, v, h => by
    simp only [Rep] at h ⊢
    exact ⟨by rw [hl.loc id h.2]; exact h.1, Nat.lt_of_lt_of_le h.2 hl.le⟩
  | .vw id off len cap, v, h => by
    simp only [Rep] at h ⊢
    exact ⟨by rw [hl.loc id h.2.1]; exact h.1, Nat.lt_of_lt_of_le h.2.1 hl.le, h.2.2⟩
  | .fn f first caps, v, h => by
    simp only [Rep] at h ⊢
    obtain ⟨fa, ca, rfl, h1, h2⟩ := h
    exact ⟨fa, ca, rfl, Reps.later hl first _ h1, Reps.later hl caps _ h2⟩
  | .ifc t av, v, h => by
    simp only [Rep] at h ⊢
    obtain ⟨y, rfl, h1⟩ := h
    exact ⟨y, rfl, Rep.later hl av _ h1⟩
  | .mp id, v, h => by
    simp only [Rep] at h ⊢
    exact ⟨by rw [hl.loc id h.2]; exact h.1, Nat.lt_of_lt_of_le h.2 hl.le⟩
  | .bp _, _, _ => by simp [Rep]
  | .buf _ _, _, _ => by simp [Rep]
theorem Reps.later {w g n w' g' n'} (hl : Later w g n w' g' n') : ∀ (as : List AV) (vs : List Value), Reps w g n as vs → Reps w' g' n' as vs
  | [], _, h => by simpa [Reps] using h
  | a :: as, vs, h => by
    simp only [Reps] at h ⊢
    obtain ⟨v, rest, rfl, h1, h2⟩ := h
    exact ⟨v, rest, rfl, Rep.later hl a _ h1, Reps.later hl as _ h2⟩
theorem Els.later {w g n w' g' n'} (hl : Later w g n w' g' n') : ∀ (es : List AV) (b off k : Nat), Els w g n es b off k → Els w' g' n' es b off k
  | [], _, _, _, _ => by simp [Els]
  | e :: es, b, off, k, h => by
    simp only [Els] at h ⊢
    obtain ⟨⟨v, h1, h2, h3⟩, h4⟩ := h
    exact ⟨⟨v, Rep.later hl e _ h1, h2, h3.later hl⟩, Els.later hl es _ _ _ h4⟩
end

theorem Reps.nil {w g n vs} : Reps w g n [] vs ↔ vs = [] := by simp [Reps]
theorem Reps.cons {w g n a as vs} : Reps w g n (a :: as) vs ↔ ∃ v rest, vs = v :: rest ∧ Rep w g n a v ∧ Reps w g n as rest := by simp [Reps]
theorem Reps.cons' {w g n a as v vs} : Reps w g n (a :: as) (v :: vs) ↔ Rep w g n a v ∧ Reps w g n as vs := by
  simp only [Reps]
  constructor
  · rintro ⟨v', rest, h, h1, h2⟩; cases h; exact ⟨h1, h2⟩
  · rintro ⟨h1, h2⟩; exact ⟨v, vs, rfl, h1, h2⟩

theorem Reps.length {w g n} : ∀ {as : List AV} {vs : List Value}, Reps w g n as vs → vs.length = as.length
  | [], vs, h => by simp [Reps.nil] at h; simp [h]
  | a :: as, vs, h => by
    obtain ⟨v, rest, rfl, _, h2⟩ := Reps.cons.1 h
    simp [Reps.length h2]

theorem Reps.get {w g n} : ∀ {as : List AV} {vs : List Value}, Reps w g n as vs → ∀ (i : Nat) (a : AV), as[i]? = some a → ∃ v, vs[i]? = some v ∧ Rep w g n a v
  | [], vs, h, i, a, ha => by simp at ha
  | x :: as, vs, h, i, a, ha => by
    obtain ⟨v, rest, rfl, h1, h2⟩ := Reps.cons.1 h
    cases i with
    | zero => simp at ha; subst ha; exact ⟨v, by simp, h1⟩
    | succ i => simp at ha ⊢; exact Reps.get h2 i a ha

theorem Reps.of_get {w g n} : ∀ {as : List AV} {vs : List Value}, vs.length = as.length → (∀ (i : Nat) (a : AV) (v : Value), as[i]? = some a → vs[i]? = some v → Rep w g n a v) → Reps w g n as vs
  | [], vs, hl, _ => by simp at hl; simp [Reps.nil, hl]
  | x :: as, [], hl, _ => by simp at hl
  | x :: as, v :: vs, hl, h => by
    refine Reps.cons'.2 ⟨h 0 x v (by simp) (by simp), Reps.of_get (by simpa using hl) fun i a u ha hu => h (i + 1) a u (by simpa using ha) (by simpa using hu)⟩

theorem Reps.append {w g n} : ∀ {as bs : List AV} {vs us : List Value}, Reps w g n as vs → Reps w g n bs us → Reps w g n (as ++ bs) (vs ++ us)
  | [], bs, vs, us, h, h' => by simp [Reps.nil] at h; simpa [h] using h'
  | a :: as, bs, vs, us, h, h' => by
    obtain ⟨v, rest, rfl, h1, h2⟩ := Reps.cons.1 h
    exact Reps.cons'.2 ⟨h1, Reps.append h2 h'⟩

theorem Reps.take {w g n} {as : List AV} {vs : List Value} (h : Reps w g n as vs) (k : Nat) : Reps w g n (as.take k) (vs.take k) := by
  refine Reps.of_get (by simp [h.length]) fun i a v ha hv => ?_
  simp only [List.getElem?_take] at ha hv
  split at ha
  · rename_i hk
    rw [if_pos hk] at hv
    obtain ⟨u, hu, hr⟩ := h.get i a ha
    rw [hu] at hv; cases hv; exact hr
  · cases ha

theorem Reps.drop {w g n} {as : List AV} {vs : List Value} (h : Reps w g n as vs) (k : Nat) : Reps w g n (as.drop k) (vs.drop k) := by
  refine Reps.of_get (by simp [h.length]) fun i a v ha hv => ?_
  simp only [List.getElem?_drop] at ha hv
  obtain ⟨u, hu, hr⟩ := h.get _ a ha
  rw [hu] at hv; cases hv; exact hr

theorem Reps.set {w g n} {as : List AV} {vs : List Value} (h : Reps w g n as vs) (i : Nat) {a : AV} {v : Value} (hr : Rep w g n a v) : Reps w g n (as.set i a) (vs.set i v) := by
  refine Reps.of_get (by simp [h.length]) fun j b u hb hu => ?_
  simp only [List.getElem?_set] at hb hu
  split at hb
  · rename_i hij
    rw [if_pos hij] at hu
    split at hb <;> split at hu <;> simp_all
  · rename_i hij
    rw [if_neg hij] at hu
    obtain ⟨u', hu', hr'⟩ := h.get _ b hb
    rw [hu'] at hu; cases hu; exact hr'

def AV.sure : AV → Bool
  | .any => false
  | .lit (.agg _) => false
  | .bp _ => false
  | .buf _ _ => false
  | _ => true

theorem Rep.cells {w g n} : ∀ {av : AV} {v : Value}, av.sure = true → Rep w g n av v → Reps w g n av.cells v.cells.toList
  | .agg cs, v, _, h => by
    simp only [Rep] at h
    obtain ⟨vs, rfl, h⟩ := h
    simpa [AV.cells, Value.cells] using h
  | .lit x, v, hs, h => by
    have : v = x := by simpa [Rep] using h
    subst this
    cases v <;> simp [AV.sure] at hs <;> simp [AV.cells, Value.cells, Reps, Rep]
  | .tup cs, v, _, h => by have h' := h; simp only [Rep] at h'; obtain ⟨vs, rfl, _⟩ := h'; simpa [AV.cells, Value.cells, Reps] using h
  | .sl c es, v, _, h => by have h' := h; simp only [Rep] at h'; obtain ⟨b, l, c, rfl, _⟩ := h'; simpa [AV.cells, Value.cells, Reps] using h
  | .cp cs, v, _, h => by have h' := h; simp only [Rep] at h'; obtain ⟨b, l, c, rfl, _⟩ := h'; simpa [AV.cells, Value.cells, Reps] using h
  | .ref id off, v, _, h => by have h' := h; simp only [Rep] at h'; obtain ⟨rfl, _⟩ := h'; simpa [AV.cells, Value.cells, Reps] using h
  | .vw id off l c, v, _, h => by have h' := h; simp only [Rep] at h'; obtain ⟨rfl, _⟩ := h'; simpa [AV.cells, Value.cells, Reps] using h
  | .fn f a b, v, _, h => by have h' := h; simp only [Rep] at h'; obtain ⟨_, _, rfl, _⟩ := h'; simpa [AV.cells, Value.cells, Reps] using h
  | .ifc t x, v, _, h => by have h' := h; simp only [Rep] at h'; obtain ⟨_, rfl, _⟩ := h'; simpa [AV.cells, Value.cells, Reps] using h
  | .mp id, v, _, h => by have h' := h; simp only [Rep] at h'; obtain ⟨rfl, _⟩ := h'; simpa [AV.cells, Value.cells, Reps] using h

theorem Rep.strip {w g n} : ∀ {av : AV} {v : Value}, Rep w g n av v → Rep w g n av.strip v
  | .sl (.own k) es, v, h => by
    simp only [Rep, AV.strip] at h ⊢
    obtain ⟨base, len, cap, rfl, h1, h2, _, h4⟩ := h
    exact ⟨base, len, cap, rfl, h1, h2, (fun h => by cases h), h4⟩
  | .sl .unk es, v, h => h
  | .sl .full es, v, h => h
  | .any, _, h => h
  | .lit _, _, h => h
  | .agg _, _, h => h
  | .tup _, _, h => h
  | .cp _, _, h => h
  | .ref _ _, _, h => h
  | .vw _ _ _ _, _, h => h
  | .fn _ _ _, _, h => h
  | .ifc _ _, _, h => h
  | .mp _, _, h => h
  | .bp _, _, _ => by simp [Rep, AV.strip]
  | .buf _ _, _, _ => by simp [Rep, AV.strip]

theorem Els.get {w g n} : ∀ {es : List AV} {b off k : Nat}, Els w g n es b off k → ∀ (i : Nat) (e : AV), es[i]? = some e →
    ∃ v, Rep w g n e v ∧ v.cells.size = k ∧ Holds w g b (off + i * k) v.cells.toList
  | [], _, _, _, _, i, e, he => by simp at he
  | x :: es, b, off, k, h, i, e, he => by
    simp only [Els] at h
    obtain ⟨⟨v, h1, h2, h3⟩, h4⟩ := h
    cases i with
    | zero => simp at he; subst he; exact ⟨v, h1, h2, by simpa using h3⟩
    | succ i =>
      simp at he
      obtain ⟨v, h1, h2, h3⟩ := Els.get h4 i e he
      exact ⟨v, h1, h2, by rw [Nat.add_assoc] at h3; have : k + i * k = (i + 1) * k := by rw [Nat.add_mul, Nat.one_mul, Nat.add_comm]
                           rw [this] at h3; exact h3⟩

theorem Els.of_get {w g n} : ∀ {es : List AV} {b off k : Nat}, (∀ (i : Nat) (e : AV), es[i]? = some e →
    ∃ v, Rep w g n e v ∧ v.cells.size = k ∧ Holds w g b (off + i * k) v.cells.toList) → Els w g n es b off k
  | [], _, _, _, _ => by simp [Els]
  | x :: es, b, off, k, h => by
    simp only [Els]
    refine ⟨by simpa using h 0 x (by simp), Els.of_get fun i e he => ?_⟩
    obtain ⟨v, h1, h2, h3⟩ := h (i + 1) e (by simpa using he)
    refine ⟨v, h1, h2, ?_⟩
    have : off + (i + 1) * k = off + k + i * k := by rw [Nat.add_mul, Nat.one_mul]; omega
    rwa [this] at h3

end Go.Abs
