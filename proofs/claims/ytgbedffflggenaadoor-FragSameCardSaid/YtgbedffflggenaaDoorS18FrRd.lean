/- What an argument that is a fragment stands for. -/
import Derived.Test.YtgbedffflggenaaDoorS18FrK
import Derived.Test.YtgbedffflggenaaDoorAbsZr
set_option linter.all false
namespace Go.Abs.Fr
open Go Go.Abs Go.Proofs Go.RowKit
set_option linter.unusedSimpArgs false
set_option maxRecDepth 100000

section
variable {H : Type} {enc : TypeId × Value → H} {W : World}

theorem u4 : E0.P.underlying 4 = some .bool := by kernel_rfl
theorem u3 : E0.P.underlying 3 = some (.int .i64) := by kernel_rfl
theorem u9 : E0.P.underlying 9 = some .string := by kernel_rfl
theorem u22 : E0.P.underlying 22 = some (.slice 31) := by kernel_rfl
theorem u29 : E0.P.underlying 29 = some (.slice 34) := by kernel_rfl
theorem u32 : E0.P.underlying 32 = some (.slice 37) := by kernel_rfl
theorem s37 : onesIs E0.P 37 [4, 3, 9] = true := by kernel_rfl
theorem s34 : onesIs E0.P 34 [3, 9, 32, 29, 29] = true := by kernel_rfl
theorem s31 : onesIs E0.P 31 [9, 29] = true := by kernel_rfl
theorem k31 : 0 < E0.P.cellsOf 31 ∧ 0 < E0.P.bytesOf 31 := by rw [show E0.P.cellsOf 31 = 2 by kernel_rfl, show E0.P.bytesOf 31 = 40 by kernel_rfl]; decide
theorem k34 : 0 < E0.P.cellsOf 34 ∧ 0 < E0.P.bytesOf 34 := by rw [show E0.P.cellsOf 34 = 5 by kernel_rfl, show E0.P.bytesOf 34 = 96 by kernel_rfl]; decide
theorem k37 : 0 < E0.P.cellsOf 37 ∧ 0 < E0.P.bytesOf 37 := by rw [show E0.P.cellsOf 37 = 3 by kernel_rfl, show E0.P.bytesOf 37 = 32 by kernel_rfl]; decide

theorem list3 {cs : List Value} {a b c : Value} (hl : cs.length = 3) (h0 : cs[0]? = some a) (h1 : cs[1]? = some b) (h2 : cs[2]? = some c) : cs = [a, b, c] := by
  match cs, hl with
  | [x, y, z], _ => simp at h0 h1 h2; subst h0 h1 h2; rfl
theorem list2 {cs : List Value} {a b : Value} (hl : cs.length = 2) (h0 : cs[0]? = some a) (h1 : cs[1]? = some b) : cs = [a, b] := by
  match cs, hl with
  | [x, y], _ => simp at h0 h1; subst h0 h1; rfl
theorem list5 {cs : List Value} {a b c d e : Value} (hl : cs.length = 5) (h0 : cs[0]? = some a) (h1 : cs[1]? = some b) (h2 : cs[2]? = some c) (h3 : cs[3]? = some d) (h4 : cs[4]? = some e) : cs = [a, b, c, d, e] := by
  match cs, hl with
  | [x, y, z, u, v], _ => simp at h0 h1 h2 h3 h4; subst h0 h1 h2 h3 h4; rfl

theorem wf_i64 {n : Int} (h : (Lit.int .i64 n).wf = true) : InR n := by
  rw [show (Lit.int .i64 n).wf = (decide (-9223372036854775808 ≤ n) && decide (n ≤ 9223372036854775807)) from rfl, Bool.and_eq_true, decide_eq_true_eq, decide_eq_true_eq] at h
  exact h

theorem rd_arg (n : Nat) : RdAt enc E0.P W n 37 argv (fun a => a.s.size ≤ reachBytes) := fun cs x h hw => by
  obtain ⟨m, rfl, hl, hf⟩ := trod_ones s37 h hw
  obtain ⟨c0, y0, e0, t0, w0⟩ := hf 0 4 rfl
  obtain ⟨c1, y1, e1, t1, w1⟩ := hf 1 3 rfl
  obtain ⟨c2, y2, e2, t2, w2⟩ := hf 2 9 rfl
  obtain ⟨b, -, r0⟩ := (RdAt.bool u4).one (fun _ => ⟨rfl, rfl⟩) t0 w0
  obtain ⟨k, hk, r1⟩ := (RdAt.int u3).one (fun _ => ⟨rfl, rfl⟩) t1 w1
  obtain ⟨s, hs, r2⟩ := (RdAt.string u9).one (fun _ => ⟨rfl, rfl⟩) t2 w2
  refine ⟨⟨b, k, s, wf_i64 hk⟩, hs, .agg #[c0, c1, c2], (list3 hl e0 e1 e2).symm, ?_⟩
  simp only [argv, Rep]
  exact ⟨_, rfl, Reps.cons'.2 ⟨r0, Reps.cons'.2 ⟨r1, Reps.cons'.2 ⟨r2, Reps.nil.2 rfl⟩⟩⟩⟩

def okAs (l : List Arg) : Prop := mxA l ≤ reachBytes
theorem mxA_of {M : Nat} : ∀ {l : List Arg}, l.length ≤ M → (∀ a, a ∈ l → a.s.size ≤ M) → mxA l ≤ M
  | [], _, _ => by simp [mxA]
  | a :: l, h, h2 => by
    have h3 := h2 a (List.mem_cons_self ..)
    have h4 := mxA_of (l := l) (by simp at h; omega) (fun b hb => h2 b (List.mem_cons_of_mem _ hb))
    simp only [List.length_cons] at h
    simp only [mxA]; omega
theorem mxL_of {M : Nat} : ∀ {l : List Stmt}, l.length ≤ M → (∀ a, a ∈ l → mxS a ≤ M) → mxL l ≤ M
  | [], _, _ => by simp [mxL]
  | a :: l, h, h2 => by
    have h3 := h2 a (List.mem_cons_self ..)
    have h4 := mxL_of (l := l) (by simp at h; omega) (fun b hb => h2 b (List.mem_cons_of_mem _ hb))
    simp only [List.length_cons] at h
    simp only [mxL]; omega
theorem mxF_of {M : Nat} : ∀ {l : List Fun}, l.length ≤ M → (∀ a, a ∈ l → a.name.size ≤ M ∧ mxL a.body ≤ M) → mxF l ≤ M
  | [], _, _ => by simp [mxF]
  | a :: l, h, h2 => by
    have h3 := h2 a (List.mem_cons_self ..)
    have h4 := mxF_of (l := l) (by simp at h; omega) (fun b hb => h2 b (List.mem_cons_of_mem _ hb))
    simp only [List.length_cons] at h
    simp only [mxF]; omega

theorem rd_args : ∀ (n : Nat), RdAt enc E0.P W n 32 argsv (fun l => mxA l ≤ reachBytes)
  | 0 => RdAt.zero
  | n + 1 => (RdAt.slice u32 k37.1 k37.2 (rd_arg n)).mono fun l h => mxA_of h.1 h.2

theorem rd_stmt_of {m : Nat} (ih : RdAt enc E0.P W m 29 bodyv (fun l => mxL l ≤ reachBytes)) : RdAt enc E0.P W (m + 1) 34 stmtv (fun s => mxS s ≤ reachBytes) := fun cs x h hw => by
  obtain ⟨m', hm, hl, hf⟩ := trod_ones s34 h hw
  obtain rfl : m = m' := Nat.succ.inj hm
  obtain ⟨c0, y0, e0, t0, w0⟩ := hf 0 3 rfl
  obtain ⟨c1, y1, e1, t1, w1⟩ := hf 1 9 rfl
  obtain ⟨c2, y2, e2, t2, w2⟩ := hf 2 32 rfl
  obtain ⟨c3, y3, e3, t3, w3⟩ := hf 3 29 rfl
  obtain ⟨c4, y4, e4, t4, w4⟩ := hf 4 29 rfl
  obtain ⟨k, hk, r0⟩ := (RdAt.int u3).one (fun _ => ⟨rfl, rfl⟩) t0 w0
  obtain ⟨s, hs, r1⟩ := (RdAt.string u9).one (fun _ => ⟨rfl, rfl⟩) t1 w1
  obtain ⟨a, ha, r2⟩ := (rd_args m).one (fun _ => ⟨rfl, rfl⟩) t2 w2
  obtain ⟨b, hb, r3⟩ := ih.one (fun _ => ⟨rfl, rfl⟩) t3 w3
  obtain ⟨e, he, r4⟩ := ih.one (fun _ => ⟨rfl, rfl⟩) t4 w4
  refine ⟨.mk k s a b e, by simp only [mxS]; omega, .agg #[c0, c1, c2, c3, c4], (list5 hl e0 e1 e2 e3 e4).symm, ?_⟩
  rw [stmtv_eq]
  simp only [Rep]
  exact ⟨_, rfl, Reps.cons'.2 ⟨r0, Reps.cons'.2 ⟨r1, Reps.cons'.2 ⟨r2, Reps.cons'.2 ⟨r3, Reps.cons'.2 ⟨r4, Reps.nil.2 rfl⟩⟩⟩⟩⟩⟩

theorem rd_body : ∀ (n : Nat), RdAt enc E0.P W n 29 bodyv (fun l => mxL l ≤ reachBytes)
  | 0 => RdAt.zero
  | 1 => (RdAt.slice (ok := fun s => mxS s ≤ reachBytes) u29 k34.1 k34.2 RdAt.zero).mono fun l h => mxL_of h.1 h.2
  | n + 2 => (RdAt.slice u29 k34.1 k34.2 (rd_stmt_of (rd_body n))).mono fun l h => mxL_of h.1 h.2

theorem rd_fun (n : Nat) : RdAt enc E0.P W n 31 funv (fun f => f.name.size ≤ reachBytes ∧ mxL f.body ≤ reachBytes) := fun cs x h hw => by
  obtain ⟨m, rfl, hl, hf⟩ := trod_ones s31 h hw
  obtain ⟨c0, y0, e0, t0, w0⟩ := hf 0 9 rfl
  obtain ⟨c1, y1, e1, t1, w1⟩ := hf 1 29 rfl
  obtain ⟨s, hs, r0⟩ := (RdAt.string u9).one (fun _ => ⟨rfl, rfl⟩) t0 w0
  obtain ⟨b, hb, r1⟩ := (rd_body m).one (fun _ => ⟨rfl, rfl⟩) t1 w1
  refine ⟨⟨s, b⟩, ⟨hs, hb⟩, .agg #[c0, c1], (list2 hl e0 e1).symm, ?_⟩
  simp only [funv, Rep]
  exact ⟨_, rfl, Reps.cons'.2 ⟨r0, Reps.cons'.2 ⟨r1, Reps.nil.2 rfl⟩⟩⟩

theorem rd_funs : ∀ (n : Nat), RdAt enc E0.P W n 22 funsv (fun l => mxF l ≤ reachBytes)
  | 0 => RdAt.zero
  | n + 1 => (RdAt.slice u22 k31.1 k31.2 (rd_fun n)).mono fun l h => mxF_of h.1 h.2
end
end Go.Abs.Fr
