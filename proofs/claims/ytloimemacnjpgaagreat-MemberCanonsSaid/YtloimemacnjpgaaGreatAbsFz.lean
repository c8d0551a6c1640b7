/- A slice that its maker wrote, handed out for good. -/
import Derived.Test.YtloimemacnjpgaaGreatAbsX
set_option linter.all false
namespace Go.Abs
open Go Go.RowKit

theorem Ev.freeze {E : Env} {f : FuncId} {args : List AV} {h : List AObj} {v : AV} (hh : Ev E f args h (fun r h' => (∃ c es, r = .ret (.sl c es) ∧ v = .sl .unk es ∧ h' = h) ∨
    ∃ J id len cap l es k, r = .ret (.vw id 0 len cap) ∧ h' = h ++ J ∧ h.length ≤ id ∧ h'[id]? = some (.cells l) ∧ l.take (len * k) = flatC es ∧ Fit k es ∧ allOne es ∧ es.length = len ∧ len * k ≤ l.length ∧ unders h.length (flatC es) = true ∧ Closed h ∧ v = .sl .unk es)) : EvR E f args h v := by
  intro w g vs hg hgl hp ha
  refine (hh w g vs hg hgl hp ha).mono ?_
  rintro e w' ⟨r, h', g', hq, hend, hk, hgl', hhp, hst, hle⟩
  rcases hq with ⟨c, es, rfl, rfl, rfl⟩ | ⟨J, id, len, cap, l, es, k, rfl, rfl, hid, hl, htake, hfit, hone, hlen, hkl, hund, hcl, rfl⟩
  · refine ⟨.ret (.sl .unk es), h', g', ⟨rfl, rfl⟩, ?_, hk, hgl', hhp, hst, hle⟩
    obtain ⟨x, rfl, hr⟩ := hend
    refine ⟨x, rfl, ?_⟩
    simp only [Rep] at hr ⊢
    obtain ⟨base, len, cap, rfl, h1, h2, _, h4⟩ := hr
    exact ⟨base, len, cap, rfl, h1, h2, (fun h => by cases h), h4⟩
  · obtain ⟨x, rfl, hr⟩ := hend
    simp only [Rep] at hr
    obtain ⟨rfl, hidl, hlc⟩ := hr
    obtain ⟨cs, e0, hc⟩ := hhp.cells id l hl
    let b0 := g'.loc id
    let g2 : Gh := { own := fun b off => if b = b0 then .com else g'.own b off, loc := g'.loc }
    have hb : ∀ b off', g'.own b off' ≠ .obj id → b ≠ b0 := fun b off' ho hbb => ho (by rw [hbb]; exact hc.own off')
    have hne : ∀ b off, b ≠ b0 → g2.own b off = g'.own b off := fun b off hb => if_neg hb
    have hlater : ∀ n, Later w' g' n w' g2 n := fun n => ⟨Nat.le_refl _, fun _ _ => rfl, fun b off u hcu ho => ⟨hcu, by
      show (if b = b0 then Own.com else g'.own b off) = _
      rw [ho]; split <;> rfl⟩, fun b o hbo ho => ⟨hbo, fun off => by
      show (if b = b0 then Own.com else g'.own b off) = _
      rw [ho off]; split <;> rfl⟩⟩
    have hks : ∀ s, KeepsSp w' g' w' g2 s := fun s b off u ho hcu hf => by
      have := hb b off (by rw [ho]; simp)
      exact ⟨by rw [hne b off this]; exact ho, ⟨u, hcu⟩, hf⟩
    have hkb : ∀ id', KeepsBuf w' g' w' g2 id' := fun id' b j hbl ho => ⟨rfl, fun off => by
      have := hb b off (by rw [ho off]; simp)
      rw [hne b off this]; exact ho off⟩
    have hold : HeapOk w' g' h := HeapOk.fewer hhp hcl
    refine ⟨.ret (.sl .unk es), h, g2, ⟨rfl, rfl⟩, ⟨_, rfl, ?_⟩, ?_, hgl'.later (hlater 0), ?_, ?_, Nat.le_refl _⟩
    · simp only [Rep]
      refine ⟨_, len, cap, rfl, hlen, hlc, (fun hh => by cases hh), (fun hh => by cases hh), fun a ha => ?_⟩
      cases ha
      refine ⟨fun _ => rfl, k, ?_⟩
      have hR : Reps w' g2 h.length (flatC es) (cs.toList.take (len * k)) := by
        refine Reps.fewer (n := (h ++ J).length) _ _ hund (Reps.later (hlater (h ++ J).length) _ _ ?_)
        refine Reps.of_get (n := (h ++ J).length) (by rw [← htake]; simp [hc.size]) fun i av u hi hu => ?_
        rw [← htake, List.getElem?_take] at hi
        rw [List.getElem?_take] at hu
        split at hi
        · rename_i hik
          rw [if_pos hik] at hu
          obtain ⟨u', h1, h2, _⟩ := hc.rep i av hi
          have : u' = u := by
            have h3 : cs.toList[i]? = some u' := by simpa using h1
            exact Option.some.inj (h3.symm.trans hu)
          subst this
          exact h2
        · cases hi
      refine Els.of_flat hfit hone (vs := cs.toList.take (len * k)) (fun j u hj => ⟨?_, if_pos rfl⟩) hR
      rw [cell_of_heap hc.blk]
      rw [List.getElem?_take] at hj
      split at hj
      · simpa using hj
      · cases hj
    · intro b off ho
      by_cases hbb : b = b0
      · subst hbb; exact lt_of_heap hc.blk
      · rw [hne b off hbb] at ho; exact hk b off ho
    · refine HeapOk.mk' (fun id' l' hl' => ?_) fun id' kk es' hl' => ?_
      · have hid' : id' < h.length := (List.getElem?_eq_some_iff.1 hl').1
        obtain ⟨vs', e', hc'⟩ := hold.cells id' l' hl'
        have hnb : g'.loc id' ≠ b0 := hb _ 0 (by rw [hc'.own]; intro hh; cases hh; omega)
        exact ⟨vs', e', hc'.step hid' (hlater _) rfl (fun off => hne _ off hnb) (fun j => hks _) (hkb _)⟩
      · have hid' : id' < h.length := (List.getElem?_eq_some_iff.1 hl').1
        have hm := hold.map id' kk es' hl'
        have hm2 := hm
        obtain ⟨en, clock, q1, q2, _⟩ := hm2
        have hnb : g'.loc id' ≠ b0 := hb _ 0 (by rw [q2]; intro hh; cases hh; omega)
        exact hm.step hid' (hlater _) rfl (fun off => hne _ off hnb)
    · refine ⟨hst.size, hst.os, hst.output, hst.tape, hst.blk, hst.cel, fun b off hbl => ⟨fun ho => ?_, fun ho => ?_⟩, hst.loc⟩
      · have := (hst.own b off hbl).1 ho
        rw [hne b off (hb b off (by rw [this]; simp))]; exact this
      · have := (hst.own b off hbl).2 ho
        rw [hne b off (hb b off (by rw [this]; simp))]; exact this

mutual
theorem under_mono {n m : Nat} (h : n ≤ m) : ∀ (v : AV), AV.under n v = true → AV.under m v = true
  | .any, _ => rfl
  | .lit _, _ => rfl
  | .agg cs, hv => by simp only [AV.under] at hv ⊢; exact unders_mono h cs hv
  | .tup cs, hv => by simp only [AV.under] at hv ⊢; exact unders_mono h cs hv
  | .sl _ es, hv => by simp only [AV.under] at hv ⊢; exact unders_mono h es hv
  | .cp cs, hv => by simp only [AV.under] at hv ⊢; exact unders_mono h cs hv
  | .ref id _, hv => by simp only [AV.under, decide_eq_true_eq] at hv ⊢; omega
  | .vw id _ _ _, hv => by simp only [AV.under, decide_eq_true_eq] at hv ⊢; omega
  | .fn _ a b, hv => by simp only [AV.under, Bool.and_eq_true] at hv ⊢; exact ⟨unders_mono h a hv.1, unders_mono h b hv.2⟩
  | .ifc _ v, hv => by simp only [AV.under] at hv ⊢; exact under_mono h v hv
  | .mp id, hv => by simp only [AV.under, decide_eq_true_eq] at hv ⊢; omega
  | .bp _, _ => rfl
  | .buf _ _, _ => rfl
theorem unders_mono {n m : Nat} (h : n ≤ m) : ∀ (l : List AV), unders n l = true → unders m l = true
  | [], _ => rfl
  | a :: l, hv => by simp only [unders, Bool.and_eq_true] at hv ⊢; exact ⟨under_mono h a hv.1, unders_mono h l hv.2⟩
end
theorem uses_mono {n m : Nat} (h : n ≤ m) (o : AObj) (ho : o.uses n = true) : o.uses m = true := by
  cases o with
  | cells l => exact unders_mono h l ho
  | map kk es => exact unders_mono h _ ho
  | gone => rfl
theorem Closed.app {h : List AObj} {o : AObj} (hc : Closed h) (hu : o.uses (h.length + 1) = true) : Closed (h ++ [o]) := by
  intro x hx
  rw [List.length_append]
  rcases List.mem_append.1 hx with hx | hx
  · exact uses_mono (by simp) x (hc x hx)
  · simp only [List.mem_singleton] at hx; subst hx; exact hu
theorem unders_append {n : Nat} {a b : List AV} (ha : unders n a = true) (hb : unders n b = true) : unders n (a ++ b) = true := unders_of fun x hx => by
  rcases List.mem_append.1 hx with hx | hx
  · obtain ⟨i, hi⟩ := List.getElem?_of_mem hx; exact unders_get ha hi
  · obtain ⟨i, hi⟩ := List.getElem?_of_mem hx; exact unders_get hb hi
theorem unders_zeros {n m : Nat} {z : List AV} (hz : unders 0 z = true) : unders n (zerosL m z) = true := unders_of fun x hx => by
  simp only [zerosL, List.mem_flatten, List.mem_replicate] at hx
  obtain ⟨l, ⟨_, rfl⟩, hx⟩ := hx
  obtain ⟨i, hi⟩ := List.getElem?_of_mem hx
  exact under_mono (Nat.zero_le _) _ (unders_get hz hi)

def dynL (z : List AV) (es : List AV) (cap : Nat) : List AV := flatC es ++ zerosL (cap - es.length) z
theorem zerosL_len (n : Nat) (z : List AV) : (zerosL n z).length = n * z.length := by simp [zerosL]
theorem zerosL_add (n m : Nat) (z : List AV) : zerosL (n + m) z = zerosL n z ++ zerosL m z := by
  simp only [zerosL, ← List.replicate_append_replicate, List.flatten_append]
theorem dynL_len {z es : List AV} {cap k : Nat} (hf : Fit k es) (hz : z.length = k) (hc : es.length ≤ cap) : (dynL z es cap).length = cap * k := by
  simp only [dynL, List.length_append, flatC_fit hf, zerosL_len, hz, ← Nat.add_mul]
  congr 1; omega
theorem flatC_append (a b : List AV) : flatC (a ++ b) = flatC a ++ flatC b := by simp [flatC]
theorem dyn_zero (z : List AV) (n cap : Nat) (h : n ≤ cap) : zerosL n z ++ zerosL (cap - n) z = dynL z [] cap := by
  rw [← zerosL_add]; simp only [dynL, flatC, List.flatMap_nil, List.nil_append, List.length_nil]; congr 1; omega
theorem dyn_in {z es xs : List AV} {cap k : Nat} (hf : Fit k es) (hx : Fit k xs) (hz : z.length = k) (hs : (flatC xs).map AV.strip = flatC xs) (hc : es.length + xs.length ≤ cap) :
    setMany (dynL z es cap) (0 + es.length * k) ((flatC xs).map AV.strip) = dynL z (es ++ xs) cap := by
  rw [hs, setMany_eq _ _ _ (by rw [dynL_len hf hz (by omega), flatC_fit hx, Nat.zero_add, ← Nat.add_mul]; exact Nat.mul_le_mul_right _ hc)]
  have h1 : (dynL z es cap).take (0 + es.length * k) = flatC es := by
    rw [Nat.zero_add, ← flatC_fit hf]; simp [dynL]
  have h2 : (dynL z es cap).drop (0 + es.length * k + (flatC xs).length) = zerosL (cap - (es ++ xs).length) z := by
    have e : dynL z es cap = (flatC es ++ zerosL xs.length z) ++ zerosL (cap - (es ++ xs).length) z := by
      rw [dynL, List.append_assoc, ← zerosL_add]; congr 2; simp only [List.length_append]; omega
    have l : (flatC es ++ zerosL xs.length z).length = 0 + es.length * k + (flatC xs).length := by
      simp only [List.length_append, zerosL_len, flatC_fit hf, flatC_fit hx, hz]; omega
    rw [e, ← l, List.drop_left]
  rw [h1, h2]
  simp only [dynL, flatC_append]
theorem dyn_new {z es xs : List AV} {cap cap' k : Nat} (hf : Fit k es) (hs : (flatC es).map AV.strip = flatC es) (hx : (flatC xs).map AV.strip = flatC xs) :
    (((dynL z es cap).drop 0).take (es.length * k)).map AV.strip ++ (flatC xs).map AV.strip ++ zerosL (cap' - (es.length + xs.length)) z = dynL z (es ++ xs) cap' := by
  rw [List.drop_zero, ← flatC_fit hf]
  simp only [dynL, hx, flatC_append, List.length_append, List.take_left, hs]
theorem dyn_first {z xs : List AV} {cap' : Nat} (hx : (flatC xs).map AV.strip = flatC xs) :
    (flatC []).map AV.strip ++ (flatC xs).map AV.strip ++ zerosL (cap' - (([] : List AV).length + xs.length)) z = dynL z xs cap' := by
  rw [hx]; simp [dynL, flatC]
theorem dyn_take {z es : List AV} {cap k : Nat} (hf : Fit k es) : (dynL z es cap).take (es.length * k) = flatC es := by
  rw [← flatC_fit hf]; simp [dynL]
theorem unders_dyn {n cap : Nat} {z es : List AV} (hz : unders 0 z = true) (he : unders n (flatC es) = true) : unders n (dynL z es cap) = true := unders_append he (unders_zeros hz)

theorem Ev.frozen {E : Env} {f : FuncId} {args : List AV} {h : List AObj} {es : List AV} (z : List AV) (k : Nat) (hk : Fit k es) (ho : allOne es) (hu : unders h.length (flatC es) = true)
    (hz : z.length = k) (hh : Ev E f args h (fun r h' => (∃ c, r = .ret (.sl c es) ∧ h' = h) ∨ ∃ J cap, r = .ret (.vw (h ++ J).length 0 es.length cap) ∧ h' = h ++ J ++ [AObj.cells (dynL z es cap)] ∧ es.length ≤ cap ∧ Closed h)) :
    EvR E f args h (.sl .unk es) := by
  refine Ev.freeze (hh.mono fun r h' hq => ?_)
  rcases hq with ⟨c, rfl, rfl⟩ | ⟨J, cap, rfl, rfl, hle, hcl⟩
  · exact .inl ⟨c, es, rfl, rfl, rfl⟩
  · refine .inr ⟨J ++ [AObj.cells (dynL z es cap)], (h ++ J).length, es.length, cap, dynL z es cap, es, k, rfl, by simp, by simp, by simp, dyn_take hk, hk, ho, rfl, ?_, hu, hcl, rfl⟩
    rw [dynL_len hk hz hle]; exact Nat.mul_le_mul_right _ hle
end Go.Abs
