/- Regions whose order is open. -/
import Derived.Test.YtenhfnadhmjloaaDoorAbsO
set_option linter.all false
namespace Go.Abs
open Go Go.RowKit

def AOp.ops : AOp → List Operand
  | .move x | .toBytes x | .nilCheck x | .un _ x | .conv _ x | .convS x | .toStr x | .fieldAddr _ x | .field _ _ x | .load _ x | .extract x _ | .len _ x | .mkIface _ x => [x]
  | .pick c a b => [c, a, b]
  | .bin _ x y | .minmax _ x y | .eqB _ x y | .eqN _ _ x y | .indexAddr _ x y | .indexAddrArr _ _ x y | .indexS x y | .indexArr _ _ _ x y => [x, y]
  | .slice _ x lo hi | .sliceS x lo hi => x :: (lo.toList ++ hi.toList)
  | .mkFunc _ first caps => first ++ caps
  | .build _ parts => parts.map (·.2.2)
  | .buildSlice _ _ _ _ parts => parts.map (·.2)
  | .call f args => f :: args.map (·.1)
  | _ => []

variable {P : Program} {h : List AObj} {ev ev' : Operand → AV} {K : AV → Prop}

theorem fillA_congr : ∀ (parts : List (Nat × Nat × Operand)) (cs : List AV), (∀ p, p ∈ parts → ev p.2.2 = ev' p.2.2) → fillA ev cs parts = fillA ev' cs parts
  | [], _, _ => rfl
  | (off, n, x) :: parts, cs, hh => by
    have h1 := hh (off, n, x) (by simp)
    simp only at h1
    simp only [fillA, h1]
    split
    · exact fillA_congr parts _ (fun p hp => hh p (by simp [hp]))
    · rfl

theorem vop_congr (ao : AOp) (hh : ∀ x, x ∈ ao.ops → ev x = ev' x) : vop h ev ao K = vop h ev' ao K := by
  cases ao with
  | slice k x lo hi =>
    have h1 := hh x (by simp [AOp.ops])
    have hlo : ∀ y, lo = some y → ev y = ev' y := fun y hy => hh y (by simp [AOp.ops, hy])
    have hhi : ∀ y, hi = some y → ev y = ev' y := fun y hy => hh y (by simp [AOp.ops, hy])
    cases lo <;> cases hi <;> simp only [vop, h1]
    · simp only [hhi _ rfl]
    · simp only [hlo _ rfl]
    · simp only [hlo _ rfl, hhi _ rfl]
  | sliceS x lo hi =>
    have h1 := hh x (by simp [AOp.ops])
    have hlo : ∀ y, lo = some y → ev y = ev' y := fun y hy => hh y (by simp [AOp.ops, hy])
    have hhi : ∀ y, hi = some y → ev y = ev' y := fun y hy => hh y (by simp [AOp.ops, hy])
    cases lo <;> cases hi <;> simp only [vop, h1]
    · simp only [hhi _ rfl]
    · simp only [hlo _ rfl]
    · simp only [hlo _ rfl, hhi _ rfl]
  | mkFunc f first caps =>
    simp only [vop]
    rw [List.map_congr_left (fun x hx => hh x (by simp [AOp.ops, hx])), List.map_congr_left (fun x hx => hh x (by simp [AOp.ops, hx]))]
  | build zero parts =>
    simp only [vop]
    rw [fillA_congr parts zero (fun p hp => hh _ (by simp only [AOp.ops, List.mem_map]; exact ⟨p, hp, rfl⟩))]
  | len b x => cases b <;> simp only [vop, hh x (by simp [AOp.ops])]
  | un op x => simp only [vop, hh x (by simp [AOp.ops])]
  | pick c a b => simp only [vop, hh c (by simp [AOp.ops]), hh a (by simp [AOp.ops]), hh b (by simp [AOp.ops])]
  | minmax op x y => simp only [vop, hh x (by simp [AOp.ops]), hh y (by simp [AOp.ops])]
  | bin op x y => simp only [vop, hh x (by simp [AOp.ops]), hh y (by simp [AOp.ops])]
  | eqB op x y => simp only [vop, hh x (by simp [AOp.ops]), hh y (by simp [AOp.ops])]
  | eqN op k x y => simp only [vop, hh x (by simp [AOp.ops]), hh y (by simp [AOp.ops])]
  | indexAddr k x y => simp only [vop, hh x (by simp [AOp.ops]), hh y (by simp [AOp.ops])]
  | indexAddrArr l k x y => simp only [vop, hh x (by simp [AOp.ops]), hh y (by simp [AOp.ops])]
  | indexS x y => simp only [vop, hh x (by simp [AOp.ops]), hh y (by simp [AOp.ops])]
  | indexArr l k n x y => simp only [vop, hh x (by simp [AOp.ops]), hh y (by simp [AOp.ops])]
  | move x => simp only [vop, hh x (by simp [AOp.ops])]
  | nilCheck x => simp only [vop, hh x (by simp [AOp.ops])]
  | conv k x => simp only [vop, hh x (by simp [AOp.ops])]
  | convS x => simp only [vop, hh x (by simp [AOp.ops])]
  | toStr x => simp only [vop, hh x (by simp [AOp.ops])]
  | fieldAddr k x => simp only [vop, hh x (by simp [AOp.ops])]
  | field k n x => simp only [vop, hh x (by simp [AOp.ops])]
  | load n x => simp only [vop, hh x (by simp [AOp.ops])]
  | extract x i => simp only [vop, hh x (by simp [AOp.ops])]
  | mkIface t x => simp only [vop, hh x (by simp [AOp.ops])]
  | _ => simp only [vop]

theorem binW_val {op : BinOp} {u v : Value} {K : Value → Prop} (hh : binW op u v K) : ∃ r, K r ∧ binW op u v (fun x => x = r) := by
  unfold binW at hh ⊢
  split at hh
  · cases op <;> simp only at hh ⊢
    all_goals first
      | exact ⟨_, hh.2.2, hh.1, hh.2.1, rfl⟩
      | exact ⟨_, hh.2, hh.1, rfl⟩
  · cases op <;> simp only at hh ⊢
    all_goals first
      | exact ⟨_, hh.2, hh.1, rfl⟩
      | exact ⟨_, hh, rfl⟩
      | exact hh.elim
  · exact hh.elim

theorem binW_mono {op : BinOp} {u v : Value} {K K' : Value → Prop} (hk : ∀ r, K r → K' r) (hb : binW op u v K) : binW op u v K' := by
  unfold binW at hb ⊢
  split at hb
  · cases op <;> simp only at hb ⊢
    all_goals first
      | exact ⟨hb.1, hb.2.1, hk _ hb.2.2⟩
      | exact ⟨hb.1, hk _ hb.2⟩
  · cases op <;> simp only at hb ⊢
    all_goals first
      | exact ⟨hb.1, hk _ hb.2⟩
      | exact hk _ hb
      | exact hb.elim
  · exact hb.elim

/-- The one value that comes of it. -/
theorem vop_val {ao : AOp} (hv : vop h ev ao K) : ∃ v, K v ∧ vop h ev ao (fun x => x = v) := by
  revert hv
  cases ao with
  | bin op x y =>
    simp only [vop]
    split
    · intro hv
      obtain ⟨r, h1, h2⟩ := binW_val hv
      exact ⟨_, h1, binW_mono (fun r hr => by rw [hr]) h2⟩
    · exact fun hv => hv.elim
  | slice k x lo hi =>
    simp only [vop]
    split
    · rintro ⟨l, u, h1, h2, h3, h4, h5, h6, h7⟩
      exact ⟨_, h7, l, u, h1, h2, h3, h4, h5, h6, rfl⟩
    · exact fun hv => hv.elim
  | sliceS x lo hi =>
    simp only [vop]
    split
    · rintro ⟨l, u, h1, h2, h3, h4, h5, h7⟩
      exact ⟨_, h7, l, u, h1, h2, h3, h4, h5, rfl⟩
    · exact fun hv => hv.elim
  | indexAddr k x y =>
    simp only [vop]
    split
    · rename_i c es kk j e1 e2
      rintro ⟨⟨h0, h1⟩, h2⟩
      have hlt : j.toNat < es.length := by omega
      obtain ⟨h3, h4, h5⟩ := h2 _ (List.getElem?_eq_getElem hlt)
      refine ⟨_, h5, ⟨h0, h1⟩, fun e he => ?_⟩
      rw [List.getElem?_eq_getElem hlt] at he
      cases he
      exact ⟨h3, h4, rfl⟩
    · exact fun hv => ⟨_, hv.2, hv.1, rfl⟩
    · exact fun hv => hv.elim
  | indexS x y =>
    simp only [vop]
    split
    · rename_i s kk j e1 e2
      rintro ⟨⟨h0, h1⟩, h2⟩
      have hlt : j.toNat < s.size := by omega
      have hs : s[j.toNat]? = some s[j.toNat] := by simp [hlt]
      refine ⟨_, h2 _ hs, ⟨h0, h1⟩, fun e he => ?_⟩
      rw [hs] at he
      cases he
      rfl
    · exact fun hv => hv.elim
  | indexArr l k n x y =>
    simp only [vop]
    split
    · rename_i cs kk j e1 e2
      rintro ⟨⟨h0, h1⟩, h2, h3, h4⟩
      cases n with
      | some n => exact ⟨_, h2, ⟨h0, h1⟩, rfl, h3, h4⟩
      | none =>
        have hlt : j.toNat * k < cs.length := by
          have : j.toNat < l := by omega
          calc j.toNat * k < l * k := Nat.mul_lt_mul_of_pos_right this h4
            _ ≤ cs.length := h3
        refine ⟨_, h2 _ (List.getElem?_eq_getElem hlt), ⟨h0, h1⟩, fun e he => ?_, h3, h4⟩
        rw [List.getElem?_eq_getElem hlt] at he
        cases he
        rfl
    · exact fun hv => hv.elim
  | mkIface t x => exact fun hv => ⟨_, hv, rfl⟩
  | mkFunc f a b => exact fun hv => ⟨_, hv, rfl⟩
  | move x => exact fun hv => ⟨_, hv, rfl⟩
  | load n x =>
    simp only [vop]
    split
    · split
      · cases n with
        | none =>
          simp only
          split
          · exact fun hv => ⟨_, hv, rfl⟩
          · exact fun hv => hv.elim
        | some n => exact fun hv => ⟨_, hv.2, hv.1, rfl⟩
      · exact fun hv => hv.elim
    · cases n with
      | none =>
        simp only
        split
        · exact fun hv => ⟨_, hv, rfl⟩
        · exact fun hv => hv.elim
      | some n => exact fun hv => ⟨_, hv.2, hv.1, rfl⟩
    · exact fun hv => hv.elim
  | field off n x =>
    simp only [vop]
    split
    · cases n with
      | none =>
        simp only
        split
        · exact fun hv => ⟨_, hv, rfl⟩
        · exact fun hv => hv.elim
      | some n => exact fun hv => ⟨_, hv, rfl⟩
    · exact fun hv => hv.elim
  | len b x => cases b <;> simp only [vop] <;> split <;> first | exact fun hv => ⟨_, hv, rfl⟩ | exact fun hv => hv.elim
  | toStr x =>
    simp only [vop]
    split
    · split
      · exact fun hv => ⟨_, hv, rfl⟩
      · exact fun hv => hv.elim
    · exact fun hv => hv.elim
  | extract x i =>
    simp only [vop]
    split
    · split
      · exact fun hv => ⟨_, hv, rfl⟩
      · exact fun hv => hv.elim
    · exact fun hv => hv.elim
  | indexAddrArr l k x y => simp only [vop]; split <;> first | exact fun hv => ⟨_, hv.2, hv.1, rfl⟩ | exact fun hv => hv.elim
  | pick c a b => simp only [vop]; split <;> first | exact fun hv => ⟨_, hv, rfl⟩ | exact fun hv => hv.elim
  | nilCheck x => simp only [vop]; split <;> first | exact fun hv => ⟨_, hv, rfl⟩ | exact fun hv => hv.elim
  | minmax op x y => simp only [vop]; split <;> first | exact fun hv => ⟨_, hv, rfl⟩ | exact fun hv => hv.elim
  | eqB op x y => simp only [vop]; split <;> first | exact fun hv => ⟨_, hv, rfl⟩ | exact fun hv => hv.elim
  | eqN op k x y => simp only [vop]; split <;> first | exact fun hv => ⟨_, hv, rfl⟩ | exact fun hv => hv.elim
  | un op x => simp only [vop]; split <;> first | exact fun hv => ⟨_, hv, rfl⟩ | exact fun hv => hv.elim
  | conv k x => simp only [vop]; split <;> first | exact fun hv => ⟨_, hv, rfl⟩ | exact fun hv => hv.elim
  | convS x => simp only [vop]; split <;> first | exact fun hv => ⟨_, hv, rfl⟩ | exact fun hv => hv.elim
  | fieldAddr k x => simp only [vop]; split <;> first | exact fun hv => ⟨_, hv, rfl⟩ | exact fun hv => hv.elim
  | build zero parts => simp only [vop]; split <;> first | exact fun hv => ⟨_, hv, rfl⟩ | exact fun hv => hv.elim
  | _ => exact fun hv => hv.elim

end Go.Abs
