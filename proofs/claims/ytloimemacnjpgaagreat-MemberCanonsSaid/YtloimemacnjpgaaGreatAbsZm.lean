/- A slice of texts that its holder may still write, lent within a record. -/
import Derived.Test.YtloimemacnjpgaaGreatAbsZ
import Derived.Test.YtloimemacnjpgaaGreatAbsFz2
set_option linter.all false
namespace Go.Abs
open Go Go.RowKit

def Gh.lent (g : Gh) (B : Nat) : Gh := { own := fun b off => if g.own b off = .com ∨ b = B then .com else .none, loc := g.loc }

mutual
theorem Rep.lent {w : World} {g : Gh} {B n : Nat} : ∀ (av : AV) (v : Value), AV.under 0 av = true → Rep w g n av v → Rep w (g.lent B) 0 av v
  | .any, _, _, _ => by simp [Rep]
  | .lit _, _, _, h => by simpa [Rep] using h
  | .agg cs, v, hu, h => by
    simp only [Rep] at h ⊢
    obtain ⟨vs, rfl, h⟩ := h
    exact ⟨vs, rfl, Reps.lent cs _ (by simpa [AV.under] using hu) h⟩
  | .tup cs, v, hu, h => by
    simp only [Rep] at h ⊢
    obtain ⟨vs, rfl, h⟩ := h
    exact ⟨vs, rfl, Reps.lent cs _ (by simpa [AV.under] using hu) h⟩
  | .sl c es, v, hu, h => by
    simp only [Rep] at h ⊢
    obtain ⟨base, len, cap, rfl, h1, h2, h3, h4, h5⟩ := h
    exact ⟨base, len, cap, rfl, h1, h2, h3, h4, fun a ha => let ⟨h6, k, h7⟩ := h5 a ha; ⟨h6, k, Els.lent es _ _ _ (by simpa [AV.under] using hu) h7⟩⟩
  | .cp cs, v, hu, h => by
    simp only [Rep] at h ⊢
    obtain ⟨b, off, vs, rfl, h1, h2⟩ := h
    exact ⟨b, off, vs, rfl, fun j u hj => ⟨(h1 j u hj).1, if_pos (.inl (h1 j u hj).2)⟩, Reps.lent cs _ (by simpa [AV.under] using hu) h2⟩
  | .ref id off, v, hu, _ => by simp [AV.under] at hu
  | .vw id off len cap, v, hu, _ => by simp [AV.under] at hu
  | .fn f first caps, v, hu, h => by
    simp only [Rep] at h ⊢
    obtain ⟨fa, ca, rfl, h1, h2⟩ := h
    simp only [AV.under, Bool.and_eq_true] at hu
    exact ⟨fa, ca, rfl, Reps.lent first _ hu.1 h1, Reps.lent caps _ hu.2 h2⟩
  | .ifc t av, v, hu, h => by
    simp only [Rep] at h ⊢
    obtain ⟨y, rfl, h1⟩ := h
    exact ⟨y, rfl, Rep.lent av _ (by simpa [AV.under] using hu) h1⟩
  | .mp id, v, hu, _ => by simp [AV.under] at hu
  | .bp _, _, _, _ => by simp [Rep]
  | .buf _ _, _, _, _ => by simp [Rep]
theorem Reps.lent {w : World} {g : Gh} {B n : Nat} : ∀ (as : List AV) (vs : List Value), unders 0 as = true → Reps w g n as vs → Reps w (g.lent B) 0 as vs
  | [], _, _, h => by simpa [Reps] using h
  | a :: as, vs, hu, h => by
    simp only [Reps] at h ⊢
    simp only [unders, Bool.and_eq_true] at hu
    obtain ⟨v, rest, rfl, h1, h2⟩ := h
    exact ⟨v, rest, rfl, Rep.lent a _ hu.1 h1, Reps.lent as _ hu.2 h2⟩
theorem Els.lent {w : World} {g : Gh} {B n : Nat} : ∀ (es : List AV) (b off k : Nat), unders 0 es = true → Els w g n es b off k → Els w (g.lent B) 0 es b off k
  | [], _, _, _, _, _ => by simp [Els]
  | e :: es, b, off, k, hu, h => by
    simp only [Els] at h ⊢
    simp only [unders, Bool.and_eq_true] at hu
    obtain ⟨⟨v, h1, h2, h3⟩, h4⟩ := h
    exact ⟨⟨v, Rep.lent e _ hu.1 h1, h2, fun j u hj => ⟨(h3 j u hj).1, if_pos (.inl (h3 j u hj).2)⟩⟩, Els.lent es _ _ _ hu.2 h4⟩
end

mutual
/-- What an argument is to the one to whom a slice of texts is lent. -/
inductive Lent1 (h : List AObj) (id : Nat) : AV → AV → Prop where
  | same {a : AV} (hu : AV.under 0 a = true) (hn : NoOwn a) : Lent1 h id a a
  | agg {cs cs' : List AV} (hc : Lent1s h id cs cs') : Lent1 h id (.agg cs) (.agg cs')
  | txt {l : List ByteArray} (hid : h[id]? = some (.cells (l.map fun s => .lit (.string s)))) : Lent1 h id (.vw id 0 l.length l.length) (.sl .unk (l.map fun s => .lit (.string s)))
inductive Lent1s (h : List AObj) (id : Nat) : List AV → List AV → Prop where
  | nil : Lent1s h id [] []
  | cons {a a' : AV} {as as' : List AV} (h1 : Lent1 h id a a') (h2 : Lent1s h id as as') : Lent1s h id (a :: as) (a' :: as')
end

theorem Lent1.noOwn {h : List AObj} {id : Nat} {a a' : AV} (hl : Lent1 h id a a') : NoOwn a' := by
  cases hl with
  | same _ hn => exact hn
  | agg _ => exact NoOwn.agg _
  | txt _ => exact NoOwn.unk _

theorem lent_txt {w : World} {g : Gh} {h : List AObj} {id : Nat} (hh : HeapOk w g h) {l : List ByteArray} (hid : h[id]? = some (.cells (l.map fun s => .lit (.string s)))) {v : Value} (hr : Rep w g h.length (.vw id 0 l.length l.length) v) :
    Rep w (g.lent (g.loc id)) 0 (.sl .unk (l.map fun s => .lit (.string s))) v := by
  simp only [Rep] at hr
  obtain ⟨rfl, -, hlc⟩ := hr
  obtain ⟨vs, e, hc⟩ := hh.cells id _ hid
  simp only [Rep]
  refine ⟨_, l.length, l.length, rfl, by simp, hlc, (fun h => by cases h), (fun h => by cases h), fun a ha => ?_⟩
  cases ha
  refine ⟨fun _ => rfl, 1, Els.of_get fun i e' he => ?_⟩
  rw [List.getElem?_map] at he
  obtain ⟨s, hs, rfl⟩ := Option.map_eq_some_iff.1 he
  obtain ⟨u, hu, hr, _⟩ := hc.rep i (.lit (.string s)) (by rw [List.getElem?_map, hs]; rfl)
  rw [Rep.lit_iff] at hr
  subst hr
  refine ⟨.string s, by simp only [Rep], rfl, ?_⟩
  intro j x hj
  have hj0 : j = 0 := by
    rcases Nat.eq_zero_or_pos j with h | h
    · exact h
    · rw [List.getElem?_eq_none (by simp [Value.cells]; omega)] at hj; cases hj
  subst hj0
  have hx : x = .string s := by simpa [Value.cells] using hj.symm
  subst hx
  refine ⟨?_, if_pos (.inr rfl)⟩
  rw [cell_of_heap hc.blk]
  simpa using hu

theorem Lent1s.get {h : List AObj} {id : Nat} : ∀ {l r : List AV}, Lent1s h id l r → l.length = r.length ∧ ∀ (i : Nat) a b, l[i]? = some a → r[i]? = some b → Lent1 h id a b
  | [], [], .nil => ⟨rfl, fun i a b h => by simp at h⟩
  | a :: l, b :: r, .cons h t => by
    obtain ⟨h1, h2⟩ := Lent1s.get t
    refine ⟨by simp [h1], fun i x y hx hy => ?_⟩
    cases i with
    | zero => simp at hx hy; subst hx hy; exact h
    | succ i => exact h2 i x y (by simpa using hx) (by simpa using hy)

theorem Lent1.rep {w : World} {g : Gh} {h : List AObj} {id : Nat} (hh : HeapOk w g h) : ∀ (k : Nat) {a a' : AV}, SizeOf.sizeOf a ≤ k → Lent1 h id a a' → ∀ {v : Value}, Rep w g h.length a v → Rep w (g.lent (g.loc id)) 0 a' v := by
  intro k
  induction k using Nat.strongRecOn with
  | _ k ih =>
    intro a a' hk hl v hr
    cases hl with
    | same hu _ => exact Rep.lent _ _ hu hr
    | txt hid => exact lent_txt hh hid hr
    | @agg cs cs' hc =>
      simp only [Rep] at hr ⊢
      obtain ⟨vs, rfl, hrs⟩ := hr
      obtain ⟨e1, e2⟩ := hc.get
      refine ⟨vs, rfl, Reps.of_get (by rw [← e1]; exact hrs.length) fun i b u hb hu => ?_⟩
      obtain ⟨c, hcc⟩ : ∃ c, cs[i]? = some c := ⟨_, List.getElem?_eq_getElem (by rw [e1]; exact (List.getElem?_eq_some_iff.1 hb).1)⟩
      obtain ⟨u', hu', hr'⟩ := hrs.get i c hcc
      rw [hu] at hu'; cases hu'
      have hsz : SizeOf.sizeOf c < SizeOf.sizeOf (AV.agg cs) := by
        have := List.sizeOf_lt_of_mem (List.mem_of_getElem? hcc)
        simp only [AV.agg.sizeOf_spec]; omega
      exact ih (SizeOf.sizeOf c) (by omega) (Nat.le_refl _) (e2 i c b hcc hb) hr'

def bigs : List AV → Bool
  | [] => true
  | [.agg (_ :: _ :: _)] => true
  | .agg (_ :: _ :: _) :: _ :: _ => true
  | .lit (.string _) :: .lit (.string _) :: _ => true
  | _ => false
mutual
def AV.big : AV → Bool
  | .any => true
  | .lit _ => true
  | .agg cs => bigL cs
  | .tup cs => bigL cs
  | .sl _ es => bigs es && bigL es
  | _ => false
def bigL : List AV → Bool
  | [] => true
  | a :: as => AV.big a && bigL as
end

theorem bigs_ne {w : World} {g : Gh} {n : Nat} {es : List AV} {b off k : Nat} (hbg : bigs es = true) (hne : es ≠ []) (he : Els w g n es b off k) {c : Array Value} {e : TypeId} {fr : Nat × Nat} {B : Nat} (hB : w.heap[B]? = some (.cells c e fr)) (hc : c.size ≤ 1) : b ≠ B := by
  rintro rfl
  have key : ∀ q u, 1 ≤ q → w.cell? ⟨b, q, none⟩ = some u → False := fun q u hq hu => by
    rw [cell_of_heap hB, Array.getElem?_eq_none (by omega)] at hu; cases hu
  match es, hbg, hne with
  | [], _, hne => exact hne rfl
  | .agg (x :: y :: r) :: rest, _, _ =>
    obtain ⟨v, hr, hk, hH⟩ := he.get 0 _ rfl
    simp only [Rep] at hr
    obtain ⟨vs, rfl, hrs⟩ := hr
    have hl := hrs.length
    have h1 : vs.toList[1]? = some (vs.toList[1]'(by rw [hl]; simp)) := List.getElem?_eq_getElem _
    exact key _ _ (by omega) (hH 1 _ h1).1
  | .lit (.string s) :: .lit (.string t) :: rest, _, _ =>
    obtain ⟨v, hr, hk, hH⟩ := he.get 1 _ rfl
    obtain ⟨v0, hr0, hk0, hH0⟩ := he.get 0 _ rfl
    rw [Rep.lit_iff] at hr hr0
    subst hr hr0
    have : k = 1 := by rw [← hk]; rfl
    subst this
    exact key _ _ (by omega) (hH 0 _ rfl).1

mutual
theorem Rep.unlent {w : World} {g g' : Gh} {n n' : Nat} {B : Nat} {c : Array Value} {e : TypeId} {fr : Nat × Nat} (hB : w.heap[B]? = some (.cells c e fr)) (hc : c.size ≤ 1) (hg : ∀ b off, b ≠ B → g.own b off = .com → g'.own b off = .com) : ∀ (av : AV) (v : Value), AV.big av = true → Rep w g n av v → Rep w g' n' av v
  | .any, _, _, _ => by simp [Rep]
  | .lit _, _, _, h => by simpa [Rep] using h
  | .agg cs, v, hu, h => by
    simp only [Rep] at h ⊢
    obtain ⟨vs, rfl, h⟩ := h
    exact ⟨vs, rfl, Reps.unlent hB hc hg cs _ (by simpa [AV.big] using hu) h⟩
  | .tup cs, v, hu, h => by
    simp only [Rep] at h ⊢
    obtain ⟨vs, rfl, h⟩ := h
    exact ⟨vs, rfl, Reps.unlent hB hc hg cs _ (by simpa [AV.big] using hu) h⟩
  | .sl c' es, v, hu, h => by
    simp only [Rep] at h ⊢
    simp only [AV.big, Bool.and_eq_true] at hu
    obtain ⟨base, len, cap, rfl, h1, h2, h3, h4, h5⟩ := h
    refine ⟨base, len, cap, rfl, h1, h2, h3, h4, fun a ha => let ⟨h6, k, h7⟩ := h5 a ha; ⟨h6, k, ?_⟩⟩
    by_cases hne : es = []
    · subst hne; simp [Els]
    · exact Els.unlent hB hc hg es _ _ _ hu.2 (bigs_ne hu.1 hne h7 hB hc) h7
  | .cp _, _, hu, _ => by simp [AV.big] at hu
  | .ref _ _, _, hu, _ => by simp [AV.big] at hu
  | .vw _ _ _ _, _, hu, _ => by simp [AV.big] at hu
  | .fn _ _ _, _, hu, _ => by simp [AV.big] at hu
  | .ifc _ _, _, hu, _ => by simp [AV.big] at hu
  | .mp _, _, hu, _ => by simp [AV.big] at hu
  | .bp _, _, hu, _ => by simp [AV.big] at hu
  | .buf _ _, _, hu, _ => by simp [AV.big] at hu
theorem Reps.unlent {w : World} {g g' : Gh} {n n' : Nat} {B : Nat} {c : Array Value} {e : TypeId} {fr : Nat × Nat} (hB : w.heap[B]? = some (.cells c e fr)) (hc : c.size ≤ 1) (hg : ∀ b off, b ≠ B → g.own b off = .com → g'.own b off = .com) : ∀ (as : List AV) (vs : List Value), bigL as = true → Reps w g n as vs → Reps w g' n' as vs
  | [], _, _, h => by simpa [Reps] using h
  | a :: as, vs, hu, h => by
    simp only [Reps] at h ⊢
    simp only [bigL, Bool.and_eq_true] at hu
    obtain ⟨v, rest, rfl, h1, h2⟩ := h
    exact ⟨v, rest, rfl, Rep.unlent hB hc hg a _ hu.1 h1, Reps.unlent hB hc hg as _ hu.2 h2⟩
theorem Els.unlent {w : World} {g g' : Gh} {n n' : Nat} {B : Nat} {c : Array Value} {e : TypeId} {fr : Nat × Nat} (hB : w.heap[B]? = some (.cells c e fr)) (hc : c.size ≤ 1) (hg : ∀ b off, b ≠ B → g.own b off = .com → g'.own b off = .com) : ∀ (es : List AV) (b off k : Nat), bigL es = true → b ≠ B → Els w g n es b off k → Els w g' n' es b off k
  | [], _, _, _, _, _, _ => by simp [Els]
  | x :: es, b, off, k, hu, hne, h => by
    simp only [Els] at h ⊢
    simp only [bigL, Bool.and_eq_true] at hu
    obtain ⟨⟨v, h1, h2, h3⟩, h4⟩ := h
    exact ⟨⟨v, Rep.unlent hB hc hg x _ hu.1 h1, h2, fun j u hj => ⟨(h3 j u hj).1, hg _ _ hne (h3 j u hj).2⟩⟩, Els.unlent hB hc hg es _ _ _ hu.2 hne h4⟩
end

theorem EvR.lend1 {E : Env} {f : FuncId} {fn : Func} {c : Code} {args args' : List AV} {R : AV} {id : Nat} {s : ByteArray} (hf : E.P.funcs[f]? = some fn) (hn : (fn.name == "runtime.NumGoroutine") = false) (hb : fn.body = some c)
    (hev : EvR E f args' [] R) {h : List AObj} (hid : h[id]? = some (.cells [.lit (.string s)])) (hl : Lent1s h id args args') (hbig : AV.big R = true) : EvR E f args h R := by
  intro w g vs hg hgl hh ha
  obtain ⟨cs, e, hc⟩ := hh.cells id _ hid
  obtain ⟨e1, e2⟩ := hl.get
  let g1 := g.lent (g.loc id)
  have hg1 : GOk w g1 := fun b off ho => by
    by_cases h1 : g.own b off = .com ∨ b = g.loc id
    · rcases h1 with h1 | h1
      · exact hg b off (by rw [h1]; simp)
      · rw [h1]; exact lt_of_heap hc.blk
    · exact absurd (show g1.own b off = .none from if_neg h1) ho
  have hgl1 : GlOk E w g1 := fun i cs hi => by
    obtain ⟨us, h1, h2, h3, h4⟩ := hgl i cs hi
    refine ⟨us, fun j u hj => ⟨(h1 j u hj).1, if_pos (.inl (h1 j u hj).2)⟩, ?_, h3, fun off => if_pos (.inl (h4 off))⟩
    refine Reps.later (w := w) (w' := w) (n := 0) (g := g) (g' := g1) (n' := 0) ⟨Nat.le_refl _, fun _ _ => rfl, fun b off u hcu ho => ⟨hcu, if_pos (.inl ho)⟩, fun b o hbo ho => ⟨hbo, fun off => if_pos (.inl (ho off))⟩⟩ _ _ h2
  have ha1 : argsOk w g1 0 args' vs := by
    refine ⟨by rw [← e1]; exact ha.1, fun i a' hi => ?_⟩
    obtain ⟨a, haa⟩ : ∃ a, args[i]? = some a := ⟨_, List.getElem?_eq_getElem (by rw [e1]; exact (List.getElem?_eq_some_iff.1 hi).1)⟩
    obtain ⟨v, hv, hr, _⟩ := ha.2 i a haa
    have hl1 := e2 i a a' haa hi
    exact ⟨v, hv, Lent1.rep hh _ (Nat.le_refl _) hl1 hr, hl1.noOwn.spare⟩
  rcases hev w g1 vs hg1 hgl1 (heapOk_nil _ _) ha1 with ⟨hent, hcalls⟩ | ⟨x, w', h1, _⟩
  · refine .inl ⟨hent, hcalls.mono ?_⟩
    rintro e' w' ⟨r, h', g2, ⟨rfl, rfl⟩, ⟨x, rfl, hr⟩, hk2, _, _, hst, _⟩
    have hblk : ∀ b, b < w.heap.size → w'.heap[b]? = w.heap[b]? := fun b hbl => hst.blk b hbl fun off => by
      by_cases h1 : g.own b off = .com ∨ b = g.loc id
      · exact .inr (if_pos h1)
      · exact .inl (if_neg h1)
    let g3 : Gh := { own := fun b off => if b < w.heap.size then g.own b off else g2.own b off, loc := g.loc }
    have hgr : Grown w g h.length w' g3 := ⟨hst.size, hst.os, hst.output, hst.tape, hblk, fun b off hb => if_pos hb, fun _ _ => rfl, fun b off ho => by
      by_cases hb : b < w.heap.size
      · exact Nat.lt_of_lt_of_le hb hst.size
      · have : g3.own b off = g2.own b off := if_neg hb
        rw [this] at ho; exact hk2 b off ho⟩
    have hB := lt_of_heap hc.blk
    refine ⟨.ret R, h, g3, ⟨rfl, rfl⟩, ⟨x, rfl, ?_⟩, hgr.gok, hgl.later (hgr.later (Nat.le_refl _)).to_zero, ?_, hgr.stable, Nat.le_refl _⟩
    · refine Rep.unlent (B := g.loc id) (c := cs) (e := e) (fr := (0, 0)) (by rw [hblk _ hB]; exact hc.blk) (by rw [hc.size]; simp) (fun b off hne ho => ?_) _ _ hbig hr
      by_cases hb : b < w.heap.size
      · show (if b < w.heap.size then g.own b off else g2.own b off) = _
        rw [if_pos hb]
        by_cases h1 : g.own b off = .com ∨ b = g.loc id
        · rcases h1 with h1 | h1
          · exact h1
          · exact absurd h1 hne
        · have hno : g1.own b off = .none := if_neg h1
          have := (hst.own b off hb).1 hno
          rw [this] at ho; cases ho
      · show (if b < w.heap.size then g.own b off else g2.own b off) = _
        rw [if_neg hb]; exact ho
    · exact hgr.heapOk hh (List.prefix_refl _) (fun id l hid hl => by rw [List.getElem?_eq_none hid] at hl; cases hl)
  · exfalso
    have h2 : (callFunc f vs).run E.P w = .ok (.enter f vs) w := by
      simp only [callFunc, Sem.run_bind, run_program, Result.andThen_ok, hf, hn, hb]
      rfl
    rw [h2] at h1
    cases h1
theorem EvR.lowT {E : Env} {f : FuncId} {args : List AV} {h : List AObj} {vs : List AV} (hh : EvR E f args h (.tup vs)) : EvR E f args h (.tup (lows vs)) := by
  intro w g us h1 h2 h3 h4
  refine (hh w g us h1 h2 h3 h4).mono ?_
  rintro e w' ⟨r, h', g', ⟨rfl, rfl⟩, ⟨x, rfl, hr⟩, rest⟩
  refine ⟨_, _, g', ⟨rfl, rfl⟩, ⟨x, rfl, ?_⟩, rest⟩
  simp only [Rep] at hr ⊢
  obtain ⟨ws, rfl, hr⟩ := hr
  exact ⟨ws, rfl, Reps.low _ _ hr⟩
end Go.Abs
