/- A builder that is part of another record: its methods, walked. -/
import Derived.Test.YthhhpaifelgcpaaDoorS08FrC
import Derived.Test.YthhhpaifelgcpaaDoorAbsB1
import Derived.Lib.Strings
import Derived.Lib.Slices
import Derived.Lib.Walk
import Derived.Lib.Builder
import Derived.Lib.AppendStr
import Derived.Lib.UnsafeStr
import Derived.Lib.MakeNoZero
import Derived.Lib.FrozenHead2
import Derived.WalkKit
import Derived.Laws.Externs
import Derived.Laws.IdiomCopy
import Derived.Laws.BitsLemmas
set_option linter.all false
namespace Go.Abs.Fr
open Go Go.Abs Go.Proofs Go.RowKit
set_option linter.unusedSimpArgs false
set_option linter.unusedVariables false

theorem sizeB : (Tryd.prog.info? 52).map (·.size) = some 2 := by kernel_rfl

set_option maxHeartbeats 1000000 in
set_option maxRecDepth 100000 in
theorem check_used (b : Nat) (w : World) (h0 : w.cell? ⟨b, 0, none⟩ = some (.pointer (some ⟨b, 0, none⟩))) :
    Calls Tryd.prog 67 #[.pointer (some ⟨b, 0, none⟩)] w fun e w' => e = .returned (.tuple #[]) ∧ w' = w := by
  obtain ⟨j, hj, _⟩ := Option.map_eq_some_iff.1 sizeB
  go_enter Tryd.func67, Tryd.ntmps67
  go_wp2
  rw [Lib.run_neq_ptr_same w _ Tryd.underlying49 hj]
  go_wp2
  go_end0
  exact ⟨rfl, rfl⟩

set_option maxHeartbeats 1000000 in
set_option maxRecDepth 100000 in
theorem check_fresh (b e n : Nat) (w : World) (h0 : w.cell? ⟨b, 0, none⟩ = some (.pointer none)) (hsh : w.shape? b = some (e, n)) (hn : 0 < n)
    (hlies : liesAt Tryd.prog Tryd.prog.depth e (n / Tryd.prog.cellsOf e) 0 52 1 = true) (hfz : w.frozen? ⟨b, 0, none⟩ = false) :
    Calls Tryd.prog 67 #[.pointer (some ⟨b, 0, none⟩)] w fun e w' => e = .returned (.tuple #[]) ∧ w' = w.setCell ⟨b, 0, none⟩ (.pointer (some ⟨b, 0, none⟩)) := by
  obtain ⟨j, hj, hjs⟩ := Option.map_eq_some_iff.1 sizeB
  go_enter Tryd.func67, Tryd.ntmps67
  go_wp2
  rw [Lib.run_to_unsafe w ⟨b, 0, none⟩ Tryd.underlying49 Tryd.underlying99 hj (by rw [hjs]; decide) hsh hn]
  simp only [Result.andThen]
  rw [Oper.upon_value]
  go_wp2
  rw [run_callFunc_extern Tryd.func73 (by kernel_rfl) (by kernel_rfl) (by kernel_rfl) (e := Extern.AbiNoEscape.same) (by kernel_rfl)]
  rw [Lib.run_noEscape]
  simp only [Result.andThen]
  rw [Oper.upon_value]
  go_wp2
  rw [Lib.run_from_unsafe w ⟨b, 0, none⟩ Tryd.underlying99 Tryd.underlying49 hj hsh hlies]
  simp only [Result.andThen]
  rw [Oper.upon_value]
  go_wp2
  go_end0
  exact ⟨rfl, rfl⟩

theorem infoByte : (Tryd.prog.info? 5).map (fun i => (i.zero, i.size, i.bytes)) = some (some (.int .u8 0), 1, 1) := by kernel_rfl

/-- What copyCheck turns. -/
theorem check_low {b : Nat} {cs : Array Value} {e te : TypeId} {v : Value} {l : List UInt8} {w : World} (h : Bld w b cs e te v l)
    (hlies : liesAt Tryd.prog Tryd.prog.depth e (cs.size / Tryd.prog.cellsOf e) 0 52 1 = true) :
    Calls Tryd.prog 67 #[.pointer (some ⟨b, 0, none⟩)] w fun en w' => en = .returned (.tuple #[]) ∧ Bld w' b (cs.setIfInBounds 0 (.pointer (some ⟨b, 0, none⟩))) e te v l ∧
      w'.os = w.os ∧ w'.output = w.output ∧ w'.tape = w.tape ∧ w'.heap.size = w.heap.size ∧ ∀ k, k ≠ b → w'.heap[k]? = w.heap[k]? := by
  have h0s : 0 < cs.size := by
    rcases h.c0 with h0 | h0 <;> exact (Array.getElem?_eq_some_iff.1 h0).1
  rcases h.c0 with h0 | h0
  · refine (check_fresh b e cs.size w (by rw [Lib.cell_of_heap h.blk]; exact h0) (by simp [World.shape?, h.blk]) h0s hlies (Lib.frozen_of_heap h.blk 0)).mono ?_
    rintro en w' ⟨rfl, rfl⟩
    have hoth : ∀ k, k ≠ b → (w.setCell ⟨b, 0, none⟩ (.pointer (some ⟨b, 0, none⟩))).heap[k]? = w.heap[k]? := fun k hk => setCell_other w b 0 _ k hk
    refine ⟨rfl, ⟨setCell_block w b 0 _ h.blk, .inr (by simp [h0s]), by rw [Array.getElem?_setIfInBounds_ne (by decide)]; exact h.c1, buf_keep h.own (fun k hk => hoth k fun hh => h.ne (by rw [← hh]; exact hk)), h.ne⟩, rfl, rfl, rfl, by simp, hoth⟩
  · refine (check_used b w (by rw [Lib.cell_of_heap h.blk]; exact h0)).mono ?_
    rintro en w' ⟨rfl, rfl⟩
    have e1 : cs.setIfInBounds 0 (.pointer (some ⟨b, 0, none⟩)) = cs := by
      apply Array.ext_getElem?
      intro j
      by_cases hj : j = 0
      · subst hj; simp [h0s]; rw [Array.getElem?_eq_some_iff] at h0; exact h0.2.symm
      · rw [Array.getElem?_setIfInBounds_ne (Ne.symm hj)]
    rw [e1]
    exact ⟨rfl, h, rfl, rfl, rfl, rfl, fun _ _ => rfl⟩

set_option maxHeartbeats 2000000 in
set_option maxRecDepth 100000 in
theorem writeString_low {b : Nat} {cs : Array Value} {e : TypeId} {v : Value} {l : List UInt8} {w : World} (s : ByteArray) (h : Bld w b cs e 5 v l)
    (hlies : liesAt Tryd.prog Tryd.prog.depth e (cs.size / Tryd.prog.cellsOf e) 0 52 1 = true) (hlen : l.length + s.size ≤ 140737488355328) :
    Calls Tryd.prog 59 #[.pointer (some ⟨b, 0, none⟩), .string s] w fun en w' => ∃ cs' v', en = .returned (.tuple #[.int .i64 s.size, .nilIface]) ∧ Bld w' b cs' e 5 v' (l ++ s.data.toList) ∧ BldStep w b cs v w' cs' v' := by
  obtain ⟨i0, hi, hz0, hz1, hz2⟩ := info_parts infoByte
  go_enter Tryd.func59, Tryd.ntmps59
  go_wp2_with (go_at_call 67; refine (check_low h hlies).mono ?_)
  rintro en w1 ⟨rfl, h1, ho1, ho2, ho3, hsz, hoth⟩
  have hcs1 : (cs.setIfInBounds 0 (.pointer (some ⟨b, 0, none⟩))).size = cs.size := by simp
  have hr1 : ∀ j, 2 ≤ j → (cs.setIfInBounds 0 (.pointer (some ⟨b, 0, none⟩)))[j]? = cs[j]? := fun j hj => Array.getElem?_setIfInBounds_ne (by omega)
  generalize cs.setIfInBounds 0 (.pointer (some ⟨b, 0, none⟩)) = cs1 at h1 hcs1 hr1
  have c1 : w1.cell? ⟨b, 1, none⟩ = some v := by rw [Lib.cell_of_heap h1.blk]; exact h1.c1
  go_wp2_with (at_builtin; refine wpList_bld_string _ rfl _ _ 50 9 rfl 5 i0 Tryd.underlying50 Tryd.underlying9 hi hz0 hz1 hz2 _ _ _ rfl h1.own s rfl hlen ?_)
  intro v' w2 hown' hgrow hmv
  have hb2 : w2.heap[b]? = some (.cells cs1 e (0, 0)) := by rw [hgrow.block b h1.lt (fun e => h1.ne e.symm)]; exact h1.blk
  have d1 : w2.cell? ⟨b, 1, none⟩ = some v := by rw [Lib.cell_of_heap hb2]; exact h1.c1
  have f1 : w2.frozen? ⟨b, 1, none⟩ = false := Lib.frozen_of_heap hb2 1
  have hfin := h1.wrote (l' := l ++ s.data.toList) hcs1 hr1 ho1 ho2 ho3 hsz hoth (by
    have e1 : (l ++ s.data.toList).length = l.length + s.size := by simp
    have e2 : Lib.byteCells (l ++ s.data.toList) = Lib.byteCells l ++ Lib.strCells s := by simp [Lib.byteCells, Lib.strCells]
    rw [e1, e2]; exact hown') hgrow.size hgrow.os hgrow.output hgrow.tape hgrow.block hmv
  obtain ⟨ao, n', cap, rfl⟩ : ∃ ao n' cap, v' = .slice ao n' cap := by
    rcases hown'.2 with ⟨hv, _⟩ | ⟨g, cap, cur, fz, hv, _⟩
    · exact ⟨_, _, _, hv⟩
    · exact ⟨_, _, _, hv⟩
  go_wp2
  go_ret2
  exact ⟨_, _, rfl, hfin⟩

theorem cellsByte : Tryd.prog.cellsOf 5 = 1 := by kernel_rfl

set_option maxHeartbeats 2000000 in
set_option maxRecDepth 100000 in
theorem string_some {b : Nat} {cs : Array Value} {e : TypeId} {v : Value} {l : List UInt8} {w : World} (h : Bld w b cs e 5 v l) (h0 : l ≠ []) :
    Calls Tryd.prog 23 #[.pointer (some ⟨b, 0, none⟩)] w fun en w' => ∃ cs' v', en = .returned (.string ⟨l.toArray⟩) ∧ Bld w' b cs' e 5 v' l ∧ BldStep w b cs v w' cs' v' := by
  have hl0 : l.length ≠ 0 := by simpa using h0
  have hown := h.own
  obtain ⟨g, cap, cur, fz, rfl, hbg, hg, hfz, hnc, hcm, hcs, htake⟩ : ∃ g cap cur fz, v = .slice (some ⟨g, 0, none⟩) l.length cap ∧ 0 ≤ g ∧ w.heap[g]? = some (.cells cur 5 fz) ∧ fz.2 ≤ l.length * 1 ∧ l.length ≤ cap ∧ cap ≤ maxLen ∧ cur.size = cap * 1 ∧ cur.toList.take (l.length * 1) = Lib.byteCells l := by
    rcases hown.2 with ⟨_, hz⟩ | ⟨g, cap, cur, fz, hv, r⟩
    · exact absurd hz hl0
    · exact ⟨g, cap, cur, fz, hv, r⟩
  have c1 : w.drew.cell? ⟨b, 1, none⟩ = some (.slice (some ⟨g, 0, none⟩) l.length cap) := by
    have : w.drew.heap[b]? = some (.cells cs e (0, 0)) := h.blk
    rw [Lib.cell_of_heap this]; exact h.c1
  have hSD : (Builtin.unsafeSliceData_ #[50] 71 #[.slice (some ⟨g, 0, none⟩) l.length cap]).run Tryd.prog w.drew = .ok (.pointer (some ⟨g, 0, none⟩)) w.drew :=
    Lib.run_unsafeSliceData_row _ _ _ _ _ _ (by omega)
  have hUS : (Builtin.unsafeString_ #[71, 3] 9 #[.pointer (some ⟨g, 0, none⟩), .int .i64 l.length]).run Tryd.prog w.drew = .ok (.string ⟨l.toArray⟩) (w.drew.freeze ⟨g, 0, none⟩ l.length) := by
    refine Lib.run_unsafeString_row w.drew 71 3 9 5 Tryd.underlying71 cellsByte g cur.size (by have hg' : w.drew.heap[g]? = some (.cells cur 5 fz) := hg; simp [World.shape?, hg']) l h0 (by omega) (by unfold maxLen at hcm; omega) ?_
    intro j x hx
    have := hown.cells (g := g) rfl j (.int .u8 x.toNat) (by simp [Lib.byteCells, hx])
    exact this
  have hown' : w.drew.ownsRowF 0 5 1 (.slice (some ⟨g, 0, none⟩) l.length cap) l.length (Lib.byteCells l) := hown
  obtain ⟨m1, m2, m3, m4⟩ := freeze_misc w.drew ⟨g, 0, none⟩ l.length
  have hfin := h.read (w' := w.drew.freeze ⟨g, 0, none⟩ l.length) m1 m2 m3 (by rw [m4]; exact Nat.le_refl _) (fun k _ hk => freeze_other w.drew _ _ k fun hh => hk (by rw [hh]; rfl)) (ownsF_froze hown')
  clear m1 m2 m3 m4 hown hown' hg hcs htake hcm hnc hfz
  go_enter Tryd.func23, Tryd.ntmps23
  go_wp2
  go_region
  all_goals (go_wp2; go_ret; exact ⟨_, _, rfl, hfin⟩)

set_option maxHeartbeats 2000000 in
set_option maxRecDepth 100000 in
theorem string_nil {b : Nat} {cs : Array Value} {e : TypeId} {w : World} (h : Bld w b cs e 5 (.slice none 0 0) []) :
    Calls Tryd.prog 23 #[.pointer (some ⟨b, 0, none⟩)] w fun en w' => ∃ cs' v', en = .returned (.string ⟨#[]⟩) ∧ Bld w' b cs' e 5 v' [] ∧ BldStep w b cs (.slice none 0 0) w' cs' v' := by
  have hUS : ∀ (W : World) (q : Option Addr), (Builtin.unsafeString_ #[71, 3] 9 #[.pointer q, .int .i64 0]).run Tryd.prog W = .ok (.string .empty) W := fun W q => Lib.run_unsafeString_none W _ _ _ q
  have c1 : w.drew.cell? ⟨b, 1, none⟩ = some (.slice none 0 0) := by
    have : w.drew.heap[b]? = some (.cells cs e (0, 0)) := h.blk
    rw [Lib.cell_of_heap this]; exact h.c1
  have hSD : (Builtin.unsafeSliceData_ #[50] 71 #[.slice none 0 0]).run Tryd.prog w.drew = .ok (.pointer none) w.drew := rfl
  have hfin := h.read (w' := w.drew) rfl rfl rfl (Nat.le_refl _) (fun k _ hk => rfl) h.own
  go_enter Tryd.func23, Tryd.ntmps23
  go_wp2
  go_region
  all_goals (go_wp2; go_ret; exact ⟨_, _, rfl, hfin⟩)

set_option maxHeartbeats 2000000 in
set_option maxRecDepth 100000 in
theorem string_room {b g cap : Nat} {cs : Array Value} {e : TypeId} {w : World} (hc0 : cap ≠ 0) (h : Bld w b cs e 5 (.slice (some ⟨g, 0, none⟩) 0 cap) []) :
    Calls Tryd.prog 23 #[.pointer (some ⟨b, 0, none⟩)] w fun en w' => ∃ cs' v', en = .returned (.string ⟨#[]⟩) ∧ Bld w' b cs' e 5 v' [] ∧ BldStep w b cs (.slice (some ⟨g, 0, none⟩) 0 cap) w' cs' v' := by
  have hUS : ∀ (W : World) (q : Option Addr), (Builtin.unsafeString_ #[71, 3] 9 #[.pointer q, .int .i64 0]).run Tryd.prog W = .ok (.string .empty) W := fun W q => Lib.run_unsafeString_none W _ _ _ q
  have c1 : w.drew.cell? ⟨b, 1, none⟩ = some (.slice (some ⟨g, 0, none⟩) 0 cap) := by
    have : w.drew.heap[b]? = some (.cells cs e (0, 0)) := h.blk
    rw [Lib.cell_of_heap this]; exact h.c1
  have hSD : (Builtin.unsafeSliceData_ #[50] 71 #[.slice (some ⟨g, 0, none⟩) 0 cap]).run Tryd.prog w.drew = .ok (.pointer (some ⟨g, 0, none⟩)) w.drew :=
    Lib.run_unsafeSliceData_row _ _ _ _ _ _ hc0
  have hfin := h.read (w' := w.drew) rfl rfl rfl (Nat.le_refl _) (fun k _ hk => rfl) h.own
  clear hc0
  go_enter Tryd.func23, Tryd.ntmps23
  go_wp2
  go_region
  all_goals (go_wp2; go_ret; exact ⟨_, _, rfl, hfin⟩)

set_option maxHeartbeats 2000000 in
set_option maxRecDepth 100000 in
theorem string_noroom {b g : Nat} {cs cur : Array Value} {e : TypeId} {fz : Nat × Nat} {w : World} (hg : w.heap[g]? = some (.cells cur 5 fz)) (h : Bld w b cs e 5 (.slice (some ⟨g, 0, none⟩) 0 0) []) :
    Calls Tryd.prog 23 #[.pointer (some ⟨b, 0, none⟩)] w fun en w' => ∃ cs' v', en = .returned (.string ⟨#[]⟩) ∧ Bld w' b cs' e 5 v' [] ∧ BldStep w b cs (.slice (some ⟨g, 0, none⟩) 0 0) w' cs' v' := by
  have hUS : ∀ (W : World) (q : Option Addr), (Builtin.unsafeString_ #[71, 3] 9 #[.pointer q, .int .i64 0]).run Tryd.prog W = .ok (.string .empty) W := fun W q => Lib.run_unsafeString_none W _ _ _ q
  have hlt := h.lt
  have c1 : w.drew.cell? ⟨b, 1, none⟩ = some (.slice (some ⟨g, 0, none⟩) 0 0) := by
    have : w.drew.heap[b]? = some (.cells cs e (0, 0)) := h.blk
    rw [Lib.cell_of_heap this]; exact h.c1
  have hSD : (Builtin.unsafeSliceData_ #[50] 71 #[.slice (some ⟨g, 0, none⟩) 0 0]).run Tryd.prog w.drew = .ok (.pointer (some ⟨w.drew.heap.size, 0, none⟩)) (w.drew.alloc (.view ⟨g, 0, none⟩ 5)) :=
    Lib.run_unsafeSliceData_zero w.drew _ _ 5 Tryd.underlying71 ⟨g, 0, none⟩ 0 (5, cur.size) (by have hg' : w.drew.heap[g]? = some (.cells cur 5 fz) := hg; simp [World.shape?, hg'])
  have c2 : (w.drew.alloc (.view ⟨g, 0, none⟩ 5)).cell? ⟨b, 1, none⟩ = some (.slice (some ⟨g, 0, none⟩) 0 0) := by
    have : (w.drew.alloc (.view ⟨g, 0, none⟩ 5)).heap[b]? = _ := (Lib.alloc_old w.drew _ b hlt).trans h.blk
    rw [Lib.cell_of_heap this]; exact h.c1
  have c3 : (w.alloc (.view ⟨g, 0, none⟩ 5)).drew.cell? ⟨b, 1, none⟩ = some (.slice (some ⟨g, 0, none⟩) 0 0) := c2
  have c0 : w.cell? ⟨b, 1, none⟩ = some (.slice (some ⟨g, 0, none⟩) 0 0) := c1
  have hall : ∀ k, k < w.heap.size → (w.drew.alloc (.view ⟨g, 0, none⟩ 5)).heap[k]? = w.heap[k]? := fun k hk => Lib.alloc_old w.drew _ k hk
  have hfin := h.read (w' := w.drew.alloc (.view ⟨g, 0, none⟩ 5)) rfl rfl rfl (by simp) (fun k hk _ => hall k hk) (buf_keep h.own fun k hk => hall k (h.own.lt k hk).2)
  clear hall
  go_enter Tryd.func23, Tryd.ntmps23
  go_wp2
  go_region
  all_goals (go_wp2; go_ret; exact ⟨_, _, rfl, hfin⟩)

theorem string_low {b : Nat} {cs : Array Value} {e : TypeId} {v : Value} {l : List UInt8} {w : World} (h : Bld w b cs e 5 v l) :
    Calls Tryd.prog 23 #[.pointer (some ⟨b, 0, none⟩)] w fun en w' => ∃ cs' v', en = .returned (.string ⟨l.toArray⟩) ∧ Bld w' b cs' e 5 v' l ∧ BldStep w b cs v w' cs' v' := by
  by_cases h0 : l = []
  · subst h0
    have hown := h.own
    rcases hown.2 with ⟨rfl, _⟩ | ⟨g, cap, cur, fz, rfl, hbg, hg, _⟩
    · exact string_nil h
    · by_cases hc : cap = 0
      · subst hc; exact string_noroom hg h
      · exact string_room hc h
  · exact string_some h h0

/-! ### As contracts -/
def lies (e : TypeId) (n : Nat) : Prop := liesAt Tryd.prog Tryd.prog.depth e (n / Tryd.prog.cellsOf e) 0 52 1 = true

theorem writeString_ev {h : List AObj} {id : Nat} {e : TypeId} {l : List UInt8} {rest : List AV} (s : ByteArray) (hid : h[id]? = some (.cells (.bp e :: .buf 5 l :: rest))) (hl : lies e (rest.length + 2)) (hlen : l.length + s.size ≤ 140737488355328) :
    Ev E0 59 [.ref id 0, .lit (.string s)] h (fun r h' => r = .ret (.tup [.lit (.int .i64 s.size), .lit .nilIface]) ∧ h' = h.set id (.cells (.bp e :: .buf 5 (l ++ s.data.toList) :: rest))) :=
  bld_ev (fn := Tryd.f59) (c := (Tryd.f59.body).getD .skip) Tryd.func59 (by kernel_rfl) (by kernel_rfl) hid fun w g vs cs v ha hsz hB => by
    rw [args_ref_lit ha]
    refine (writeString_low s hB (by rw [hsz]; exact hl) hlen).mono ?_
    rintro en w' ⟨cs', v', rfl, h1, h2⟩
    exact ⟨_, cs', v', rfl, fun w g n => by simp [Rep, Reps], h1, h2⟩

theorem string_ev {h : List AObj} {id : Nat} {e : TypeId} {l : List UInt8} {rest : List AV} (hid : h[id]? = some (.cells (.bp e :: .buf 5 l :: rest))) :
    Ev E0 23 [.ref id 0] h (fun r h' => r = .ret (.lit (.string ⟨l.toArray⟩)) ∧ h' = h.set id (.cells (.bp e :: .buf 5 l :: rest))) :=
  bld_ev (fn := Tryd.f23) (c := (Tryd.f23.body).getD .skip) Tryd.func23 (by kernel_rfl) (by kernel_rfl) hid fun w g vs cs v ha hsz hB => by
    rw [args_ref ha]
    refine (string_low hB).mono ?_
    rintro en w' ⟨cs', v', rfl, h1, h2⟩
    exact ⟨_, cs', v', rfl, fun w g n => by simp [Rep], h1, h2⟩
end Go.Abs.Fr
