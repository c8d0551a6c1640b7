/- Slices in a record that its maker wrote, handed out for good. -/
import Derived.Test.YtloimemacnjpgaaGreatAbsFz
set_option linter.all false
namespace Go.Abs
open Go Go.RowKit

def FrzPre (h : List AObj) (Q : ARes → List AObj → Prop) (r : ARes) (h' : List AObj) : Prop := (∃ (cs : List AV) (j : Nat) (c : Cap) (es : List AV), r = .ret (.agg cs) ∧ cs[j]? = some (.sl c es) ∧ Q (.ret (.agg (cs.set j (.sl .unk es)))) h') ∨ ∃ (cs : List AV) (j id len cap : Nat) (l es : List AV) (k : Nat), r = .ret (.agg cs) ∧ cs[j]? = some (.vw id 0 len cap) ∧
    h.length ≤ id ∧ h'[id]? = some (.cells l) ∧ l.take (len * k) = flatC es ∧ Fit k es ∧ allOne es ∧ es.length = len ∧ len * k ≤ l.length ∧ Q (.ret (.agg (cs.set j (.sl .unk es)))) (h'.set id .gone)
theorem Ev.frz1 {E : Env} {f : FuncId} {args : List AV} {h : List AObj} {Q : ARes → List AObj → Prop} (hh : Ev E f args h (FrzPre h Q)) : Ev E f args h Q := by
  intro w g vs hg hgl hp ha
  refine (hh w g vs hg hgl hp ha).mono ?_
  rintro e w' ⟨r, h', g', hq, hend, hk, hgl', hhp, hst, hle⟩
  rcases hq with ⟨cs, j, c, es, rfl, hj, hQ⟩ | ⟨cs, j, id, len, cap, l, es, k, rfl, hj, hid, hl, htake, hfit, hone, hlen, hkl, hQ⟩
  · obtain ⟨x, rfl, hr⟩ := hend
    simp only [Rep] at hr
    obtain ⟨us, rfl, hrs⟩ := hr
    obtain ⟨xj, hxj, hrj⟩ := Reps.get hrs j _ hj
    refine ⟨_, _, g', hQ, ⟨_, rfl, ?_⟩, hk, hgl', hhp, hst, hle⟩
    simp only [Rep]
    refine ⟨us, rfl, ?_⟩
    refine Reps.of_get (by rw [List.length_set]; exact hrs.length) fun i av u hi hu => ?_
    by_cases hij : j = i
    · subst hij
      have hjl : j < cs.length := (List.getElem?_eq_some_iff.1 hj).1
      rw [List.getElem?_set_self hjl] at hi
      cases hi
      rw [hxj] at hu; cases hu
      simp only [Rep] at hrj ⊢
      obtain ⟨base, len, cap, rfl, h1, h2, _, h4⟩ := hrj
      exact ⟨base, len, cap, rfl, h1, h2, (fun h => by cases h), h4⟩
    · rw [List.getElem?_set_ne hij] at hi
      obtain ⟨u', h1, h2⟩ := Reps.get hrs i av hi
      rw [h1] at hu; cases hu
      exact h2
  obtain ⟨x, rfl, hr⟩ := hend
  simp only [Rep] at hr
  obtain ⟨us, rfl, hrs⟩ := hr
  obtain ⟨xj, hxj, hrj⟩ := Reps.get hrs j _ hj
  simp only [Rep] at hrj
  obtain ⟨rfl, hidl, hlc⟩ := hrj
  obtain ⟨cs0, e0, hc⟩ := hhp.cells id l hl
  let b0 := g'.loc id
  let g2 : Gh := { own := fun b off => if b = b0 then .com else g'.own b off, loc := g'.loc }
  have hb : ∀ b off', g'.own b off' ≠ .obj id → b ≠ b0 := fun b off' ho hbb => ho (by rw [hbb]; exact hc.own off')
  have hne : ∀ b off, b ≠ b0 → g2.own b off = g'.own b off := fun b off hb => if_neg hb
  have hlater : ∀ n, Later w' g' n w' g2 n := fun n => ⟨Nat.le_refl _, fun _ _ => rfl, fun b off u hcu ho => ⟨hcu, by
    show (if b = b0 then Own.com else g'.own b off) = _
    rw [ho]; split <;> rfl⟩, fun b o hbo ho => ⟨hbo, fun off => by
    show (if b = b0 then Own.com else g'.own b off) = _
    rw [ho off]; split <;> rfl⟩⟩
  have hks : ∀ s, KeepsSp w' g' w' g2 s := fun s b off u ho hcu hf => by
    have := hb b off (by rw [ho]; simp)
    exact ⟨by rw [hne b off this]; exact ho, ⟨u, hcu⟩, hf⟩
  have hkb : ∀ id', KeepsBuf w' g' w' g2 id' := fun id' b j hbl ho => ⟨rfl, fun off => by
    have := hb b off (by rw [ho off]; simp)
    rw [hne b off this]; exact ho off⟩
  have hsz : (h'.set id .gone).length = h'.length := List.length_set ..
  have hR : Reps w' g2 h'.length (flatC es) (cs0.toList.take (len * k)) := by
    refine Reps.later (hlater h'.length) _ _ ?_
    refine Reps.of_get (n := h'.length) (by rw [← htake]; simp [hc.size]) fun i av u hi hu => ?_
    rw [← htake, List.getElem?_take] at hi
    rw [List.getElem?_take] at hu
    split at hi
    · rename_i hik
      rw [if_pos hik] at hu
      obtain ⟨u', h1, h2, _⟩ := hc.rep i av hi
      have : u' = u := by
        have h3 : cs0.toList[i]? = some u' := by simpa using h1
        exact Option.some.inj (h3.symm.trans hu)
      subst this
      exact h2
    · cases hi
  have hnew : Rep w' g2 h'.length (.sl .unk es) (.slice (some ⟨g'.loc id, 0, none⟩) len cap) := by
    simp only [Rep]
    refine ⟨_, len, cap, rfl, hlen, hlc, (fun hh => by cases hh), (fun hh => by cases hh), fun a ha => ?_⟩
    cases ha
    refine ⟨fun _ => rfl, k, ?_⟩
    refine Els.of_flat hfit hone (vs := cs0.toList.take (len * k)) (fun j u hj => ⟨?_, if_pos rfl⟩) hR
    rw [cell_of_heap hc.blk]
    rw [List.getElem?_take] at hj
    split at hj
    · simpa using hj
    · cases hj
  refine ⟨_, _, g2, hQ, ⟨_, rfl, ?_⟩, ?_, hgl'.later (hlater 0), ?_, ?_, by rw [hsz]; exact hle⟩
  · rw [hsz]
    simp only [Rep]
    refine ⟨us, rfl, ?_⟩
    refine Reps.of_get (by rw [List.length_set]; exact hrs.length) fun i av u hi hu => ?_
    by_cases hij : j = i
    · subst hij
      have hjl : j < cs.length := (List.getElem?_eq_some_iff.1 hj).1
      rw [List.getElem?_set_self hjl] at hi
      cases hi
      rw [hxj] at hu; cases hu
      exact hnew
    · rw [List.getElem?_set_ne hij] at hi
      obtain ⟨u', h1, h2⟩ := Reps.get hrs i av hi
      rw [h1] at hu; cases hu
      exact Rep.later (hlater _) _ _ h2
  · intro b off ho
    by_cases hbb : b = b0
    · subst hbb; exact lt_of_heap hc.blk
    · rw [hne b off hbb] at ho; exact hk b off ho
  · refine HeapOk.mk' (fun id' l' hl' => ?_) fun id' kk es' hl' => ?_
    · have hne' : id ≠ id' := by
        rintro rfl
        rw [List.getElem?_set_self hidl] at hl'; cases hl'
      rw [List.getElem?_set_ne hne'] at hl'
      have hid' : id' < h'.length := (List.getElem?_eq_some_iff.1 hl').1
      obtain ⟨vs', e', hc'⟩ := hhp.cells id' l' hl'
      have hnb : g'.loc id' ≠ b0 := hb _ 0 (by rw [hc'.own]; intro hh; cases hh; exact hne' rfl)
      rw [hsz]
      exact ⟨vs', e', hc'.step hid' (hlater _) rfl (fun off => hne _ off hnb) (fun j => hks _) (hkb _)⟩
    · have hne' : id ≠ id' := by
        rintro rfl
        rw [List.getElem?_set_self hidl] at hl'; cases hl'
      rw [List.getElem?_set_ne hne'] at hl'
      have hid' : id' < h'.length := (List.getElem?_eq_some_iff.1 hl').1
      have hm := hhp.map id' kk es' hl'
      have hm2 := hm
      obtain ⟨en, clock, q1, q2, _⟩ := hm2
      have hnb : g'.loc id' ≠ b0 := hb _ 0 (by rw [q2]; intro hh; cases hh; exact hne' rfl)
      rw [hsz]
      exact hm.step hid' (hlater _) rfl (fun off => hne _ off hnb)
  · refine ⟨hst.size, hst.os, hst.output, hst.tape, hst.blk, hst.cel, fun b off hbl => ⟨fun ho => ?_, fun ho => ?_⟩, hst.loc⟩
    · have := (hst.own b off hbl).1 ho
      rw [hne b off (hb b off (by rw [this]; simp))]; exact this
    · have := (hst.own b off hbl).2 ho
      rw [hne b off (hb b off (by rw [this]; simp))]; exact this

theorem Ev.drop {E : Env} {f : FuncId} {args : List AV} {h : List AObj} {v : AV} (hu : AV.under h.length v = true) (hh : Ev E f args h (fun r h' => r = .ret v ∧ ∃ J, h' = h ++ J)) : EvR E f args h v := by
  intro w g vs hg hgl hp ha
  refine (hh w g vs hg hgl hp ha).mono ?_
  rintro e w' ⟨r, h', g', ⟨rfl, J, rfl⟩, hend, hk, hgl', hhp, hst, hle⟩
  obtain ⟨x, rfl, hr⟩ := hend
  exact ⟨_, h, g', ⟨rfl, rfl⟩, ⟨x, rfl, Rep.fewer _ _ hu hr⟩, hk, hgl', HeapOk.fewer hhp hp.closed, hst, Nat.le_refl _⟩
theorem set_past {α : Type} (h J : List α) (id : Nat) (x : α) (hid : h.length ≤ id) : (h ++ J).set id x = h ++ J.set (id - h.length) x := by
  rw [List.set_append_right _ _ hid]

def SlotOk (h : List AObj) (lo : Nat) (z : List AV) (es : List AV) (s : AV) : Prop :=
  (s = .sl .full [] ∧ es = []) ∨ ∃ id cap, s = .vw id 0 es.length cap ∧ h[id]? = some (.cells (dynL z es cap)) ∧ es.length ≤ cap ∧ lo ≤ id
def Apart (s s' : AV) : Prop := ∀ i a b a' b', s = .vw i 0 a b → s' ≠ .vw i 0 a' b'
def Frm (h h' : List AObj) (s : AV) : Prop := ∀ i o, h[i]? = some o → (∀ a b, s ≠ .vw i 0 a b) → h'[i]? = some o
def Heir (h : List AObj) (s s' : AV) : Prop := ∀ i a b, s' = .vw i 0 a b → (∃ a' b', s = .vw i 0 a' b') ∨ h.length ≤ i

theorem SlotOk.frm {h h' : List AObj} {lo : Nat} {z es : List AV} {s s' : AV} (hs : SlotOk h lo z es s) (hf : Frm h h' s') (ha : Apart s s') : SlotOk h' lo z es s := by
  rcases hs with ⟨h1, h2⟩ | ⟨id, cap, rfl, h2, h3, h4⟩
  · exact .inl ⟨h1, h2⟩
  · exact .inr ⟨id, cap, rfl, hf id _ h2 (fun a b => ha id _ _ a b rfl), h3, h4⟩
theorem SlotOk.app {h : List AObj} {lo : Nat} {z es : List AV} {s : AV} (hs : SlotOk h lo z es s) (J : List AObj) : SlotOk (h ++ J) lo z es s := by
  rcases hs with ⟨h1, h2⟩ | ⟨id, cap, rfl, h2, h3, h4⟩
  · exact .inl ⟨h1, h2⟩
  · exact .inr ⟨id, cap, rfl, by rw [List.getElem?_append_left (List.getElem?_eq_some_iff.1 h2).1]; exact h2, h3, h4⟩
theorem SlotOk.swap {P P' J : List AObj} {lo : Nat} {z es : List AV} {s : AV} (hs : SlotOk (P ++ J) lo z es s) (hl : P.length = lo) (hl' : P'.length = lo) : SlotOk (P' ++ J) lo z es s := by
  subst hl
  rcases hs with ⟨h1, h2⟩ | ⟨id, cap, rfl, h2, h3, h4⟩
  · exact .inl ⟨h1, h2⟩
  · exact .inr ⟨id, cap, rfl, by rw [List.getElem?_append_right (by omega)] at h2 ⊢; rw [hl']; exact h2, h3, by omega⟩
theorem SlotOk.lt {h : List AObj} {lo : Nat} {z es : List AV} {i a b : Nat} (hs : SlotOk h lo z es (.vw i 0 a b)) : i < h.length := by
  rcases hs with ⟨h1, h2⟩ | ⟨id, cap, h1, h2, h3, h4⟩
  · cases h1
  · cases h1; exact (List.getElem?_eq_some_iff.1 h2).1
theorem Heir.apart {h : List AObj} {lo : Nat} {z es : List AV} {s s' u : AV} (hh : Heir h s s') (ha : Apart u s) (hu : SlotOk h lo z es u) : Apart u s' := by
  intro i a b a' b' he he'
  subst he
  rcases hh i a' b' he' with ⟨a2, b2, h2⟩ | h2
  · exact ha i a b a2 b2 rfl h2
  · have := hu.lt; omega
theorem Apart.symm {s s' : AV} (h : Apart s s') : Apart s' s := fun i a b a' b' h1 h2 => h i a' b' a b h2 h1
theorem SlotOk.under {h : List AObj} {lo : Nat} {z es : List AV} {s : AV} (hs : SlotOk h lo z es s) : AV.under h.length s = true := by
  rcases hs with ⟨rfl, _⟩ | ⟨id, cap, rfl, h2, h3, h4⟩
  · rfl
  · simp only [AV.under, decide_eq_true_eq]; exact (List.getElem?_eq_some_iff.1 h2).1
theorem SlotOk.one {h : List AObj} {lo : Nat} {z es : List AV} {s : AV} (hs : SlotOk h lo z es s) : AV.sure s = true ∧ AV.cells s = [s] ∧ AV.strip s = s ∧ AV.one s = true := by
  rcases hs with ⟨rfl, _⟩ | ⟨id, cap, rfl, h2, h3, h4⟩ <;> exact ⟨rfl, rfl, rfl, rfl⟩

theorem AppO.use {k b lo : Nat} {z : List AV} {h P J : List AObj} {s : AV} {es xs : List AV} {K : List AObj → AV → Prop} {t} (hh : h = P ++ J) (hlo : P.length = lo) (hs : SlotOk (P ++ J) lo z es s) (hk : 0 < k) (hz : z.length = k)
    (hfe : Fit k es) (hfx : Fit k xs) (hox : allOne xs) (hse : (flatC es).map AV.strip = flatC es) (hsx : (flatC xs).map AV.strip = flatC xs) (hb : (2 * (es.length + xs.length) + 192) * b ≤ 2 ^ 48) (hn : es.length + xs.length < 2 ^ 62) (hxs : xs ≠ [])
    (hK : ∀ J' s', SlotOk (P ++ J') lo z (es ++ xs) s' → Frm (P ++ J) (P ++ J') s → Heir (P ++ J) s s' → K (P ++ J') s') : AppO k b z h s xs K t := by
  subst hh hlo
  rcases hs with ⟨rfl, rfl⟩ | ⟨id, cap, rfl, h2, h3, h4⟩
  · simp only [AppO, mSlO]
    refine Need.mk ⟨hk, hz, hfe, hfx, hox, by simpa using hb, by simpa using hn⟩ (AppF.mk (fun h => absurd h hxs) fun _ cap' hc => ?_)
    rw [dyn_first hsx, List.append_assoc]
    refine hK _ _ (.inr ⟨(P ++ J).length, cap', by simp, ?_, by simpa using hc, by simp⟩) (fun i o ho _ => ?_) (fun i a b h => ?_)
    · rw [← List.append_assoc]; simp
    · rw [← List.append_assoc, List.getElem?_append_left (List.getElem?_eq_some_iff.1 ho).1]; exact ho
    · cases h; exact .inr (Nat.le_refl _)
  · simp only [AppO, mSlO, h2, mObj]
    have hl := dyn_in (z := z) (cap := cap) hfe hfx hz hsx
    refine Need.mk ⟨hk, hz, hfx, hox, by rw [dynL_len hfe hz h3, Nat.zero_add]; exact Nat.mul_le_mul_right _ h3, hb, hn⟩ (AppF.mk (fun hfit => ⟨?_, ?_⟩) fun hfit cap' hc => ?_)
    · rw [dynL_len hfe hz h3, Nat.zero_add]; exact Nat.mul_le_mul_right _ hfit
    · rw [hl hfit, List.set_append_right _ _ h4]
      refine hK _ _ (.inr ⟨id, cap, by simp, ?_, by simpa using hfit, h4⟩) (fun i o ho hne => ?_) (fun i a b h => ?_)
      · have hlt := (List.getElem?_eq_some_iff.1 h2).1
        rw [← List.set_append_right _ _ h4, List.getElem?_set_self hlt]
      · rw [← List.set_append_right _ _ h4, List.getElem?_set_ne (fun h => hne _ _ (by rw [← h]))]; exact ho
      · cases h; exact .inl ⟨_, _, rfl⟩
    · rw [dyn_new hfe hse hsx, List.append_assoc]
      refine hK _ _ (.inr ⟨(P ++ J).length, cap', by simp, ?_, by simpa using hc, by simp⟩) (fun i o ho _ => ?_) (fun i a b h => ?_)
      · rw [← List.append_assoc]; simp
      · rw [← List.append_assoc, List.getElem?_append_left (List.getElem?_eq_some_iff.1 ho).1]; exact ho
      · cases h; exact .inr (Nat.le_refl _)

theorem frz_or {h h' : List AObj} {cs : List AV} {j : Nat} {s : AV} {z es : List AV} {k : Nat} {J : List AObj} {Q : ARes → List AObj → Prop} (hj : cs[j]? = some s) (hs : SlotOk h' h.length z es s ∨ ∃ c, s = .sl c es) (hfit : Fit k es) (hone : allOne es) (hz : z.length = k)
    (hJ : h' = h ++ J) (hQ : ∀ J', Frm h' (h ++ J') s → Q (.ret (.agg (cs.set j (.sl .unk es)))) (h ++ J')) : FrzPre h Q (.ret (.agg cs)) h' := by
  rcases hs with (⟨rfl, rfl⟩ | ⟨id, cap, rfl, h2, h3, h4⟩) | ⟨c, rfl⟩
  · exact .inl ⟨cs, j, .full, [], rfl, hj, by rw [hJ]; exact hQ J (fun i o ho _ => by rw [← hJ]; exact ho)⟩
  · refine .inr ⟨cs, j, id, es.length, cap, dynL z es cap, es, k, rfl, hj, h4, h2, dyn_take hfit, hfit, hone, rfl, ?_, ?_⟩
    · rw [dynL_len hfit hz h3]; exact Nat.mul_le_mul_right _ h3
    · have := hQ (J.set (id - h.length) .gone) (fun i o ho hne => by
        rw [← set_past _ _ _ _ h4, ← hJ, List.getElem?_set_ne (fun h => hne _ _ (by rw [← h]))]; exact ho)
      rw [← set_past _ _ _ _ h4, ← hJ] at this
      exact this
  · exact .inl ⟨cs, j, c, es, rfl, hj, by rw [hJ]; exact hQ J (fun i o ho _ => by rw [← hJ]; exact ho)⟩
end Go.Abs
