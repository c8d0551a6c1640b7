/- Regions whose order is open. -/
import Derived.Test.YtgbedffflggenaaDoorAbsM
set_option linter.all false
namespace Go.Abs
open Go Go.RowKit

def AOp.ops : AOp → List Operand
  | .move x | .toBytes x | .nilCheck x | .un _ x | .conv _ x | .convS x | .toStr x | .fieldAddr _ x | .field _ _ x | .load _ x | .extract x _ | .len _ x | .mkIface _ x => [x]
  | .pick c a b => [c, a, b]
  | .bin _ x y | .minmax _ x y | .eqB _ x y | .eqN _ _ x y | .eqS _ _ x y | .indexAddr _ x y | .indexAddrArr _ _ x y | .indexS x y | .indexArr _ _ _ x y => [x, y]
  | .slice _ x lo hi | .sliceS x lo hi => x :: (lo.toList ++ hi.toList)
  | .mkFunc _ first caps => first ++ caps
  | .build _ parts => parts.map (·.2.2)
  | .buildSlice _ _ _ _ parts => parts.map (·.2)
  | .call f args => f :: args.map (·.1)
  | _ => []

variable {P : Program} {h : List AObj} {ev ev' : Operand → AV} {K : AV → Prop}

theorem fillA_congr : ∀ (parts : List (Nat × Nat × Operand)) (cs : List AV), (∀ p, p ∈ parts → ev p.2.2 = ev' p.2.2) → fillA ev cs parts = fillA ev' cs parts
  | [], _, _ => rfl
  | (off, n, x) :: parts, cs, hh => by
    have h1 := hh (off, n, x) (by simp)
    simp only at h1
    simp only [fillA, h1]
    split
    · exact fillA_congr parts _ (fun p hp => hh p (by simp [hp]))
    · rfl

theorem vop_congr (ao : AOp) (hh : ∀ x, x ∈ ao.ops → ev x = ev' x) : vop h ev ao K = vop h ev' ao K := by
  cases ao with
  | slice k x lo hi =>
    have h1 := hh x (by simp [AOp.ops])
    have hlo : ∀ y, lo = some y → ev y = ev' y := fun y hy => hh y (by simp [AOp.ops, hy])
    have hhi : ∀ y, hi = some y → ev y = ev' y := fun y hy => hh y (by simp [AOp.ops, hy])
    cases lo <;> cases hi <;> simp only [vop, h1]
    · simp only [hhi _ rfl]
    · simp only [hlo _ rfl]
    · simp only [hlo _ rfl, hhi _ rfl]
  | sliceS x lo hi =>
    have h1 := hh x (by simp [AOp.ops])
    have hlo : ∀ y, lo = some y → ev y = ev' y := fun y hy => hh y (by simp [AOp.ops, hy])
    have hhi : ∀ y, hi = some y → ev y = ev' y := fun y hy => hh y (by simp [AOp.ops, hy])
    cases lo <;> cases hi <;> simp only [vop, h1]
    · simp only [hhi _ rfl]
    · simp only [hlo _ rfl]
    · simp only [hlo _ rfl, hhi _ rfl]
  | mkFunc f first caps =>
    simp only [vop]
    rw [List.map_congr_left (fun x hx => hh x (by simp [AOp.ops, hx])), List.map_congr_left (fun x hx => hh x (by simp [AOp.ops, hx]))]
  | build zero parts =>
    simp only [vop]
    rw [fillA_congr parts zero (fun p hp => hh _ (by simp only [AOp.ops, List.mem_map]; exact ⟨p, hp, rfl⟩))]
  | len b x => cases b <;> simp only [vop, hh x (by simp [AOp.ops])]
  | un op x => simp only [vop, hh x (by simp [AOp.ops])]
  | pick c a b => simp only [vop, hh c (by simp [AOp.ops]), hh a (by simp [AOp.ops]), hh b (by simp [AOp.ops])]
  | minmax op x y => simp only [vop, hh x (by simp [AOp.ops]), hh y (by simp [AOp.ops])]
  | bin op x y => simp only [vop, hh x (by simp [AOp.ops]), hh y (by simp [AOp.ops])]
  | eqB op x y => simp only [vop, hh x (by simp [AOp.ops]), hh y (by simp [AOp.ops])]
  | eqN op k x y => simp only [vop, hh x (by simp [AOp.ops]), hh y (by simp [AOp.ops])]
  | eqS op k x y => simp only [vop, hh x (by simp [AOp.ops]), hh y (by simp [AOp.ops])]
  | indexAddr k x y => simp only [vop, hh x (by simp [AOp.ops]), hh y (by simp [AOp.ops])]
  | indexAddrArr l k x y => simp only [vop, hh x (by simp [AOp.ops]), hh y (by simp [AOp.ops])]
  | indexS x y => simp only [vop, hh x (by simp [AOp.ops]), hh y (by simp [AOp.ops])]
  | indexArr l k n x y => simp only [vop, hh x (by simp [AOp.ops]), hh y (by simp [AOp.ops])]
  | move x => simp only [vop, hh x (by simp [AOp.ops])]
  | nilCheck x => simp only [vop, hh x (by simp [AOp.ops])]
  | conv k x => simp only [vop, hh x (by simp [AOp.ops])]
  | convS x => simp only [vop, hh x (by simp [AOp.ops])]
  | toStr x => simp only [vop, hh x (by simp [AOp.ops])]
  | fieldAddr k x => simp only [vop, hh x (by simp [AOp.ops])]
  | field k n x => simp only [vop, hh x (by simp [AOp.ops])]
  | load n x => simp only [vop, hh x (by simp [AOp.ops])]
  | extract x i => simp only [vop, hh x (by simp [AOp.ops])]
  | mkIface t x => simp only [vop, hh x (by simp [AOp.ops])]
  | _ => simp only [vop]

theorem binW_val {op : BinOp} {u v : Value} {K : Value → Prop} (hh : binW op u v K) : ∃ r, K r ∧ binW op u v (fun x => x = r) := by
  unfold binW at hh ⊢
  split at hh
  · cases op <;> simp only at hh ⊢
    all_goals first
      | exact ⟨_, hh.2.2, hh.1, hh.2.1, rfl⟩
      | exact ⟨_, hh.2, hh.1, rfl⟩
  · cases op <;> simp only at hh ⊢
    all_goals first
      | exact ⟨_, hh.2, hh.1, rfl⟩
      | exact ⟨_, hh, rfl⟩
      | exact hh.elim
  · exact hh.elim

theorem binW_mono {op : BinOp} {u v : Value} {K K' : Value → Prop} (hk : ∀ r, K r → K' r) (hb : binW op u v K) : binW op u v K' := by
  unfold binW at hb ⊢
  split at hb
  · cases op <;> simp only at hb ⊢
    all_goals first
      | exact ⟨hb.1, hb.2.1, hk _ hb.2.2⟩
      | exact ⟨hb.1, hk _ hb.2⟩
  · cases op <;> simp only at hb ⊢
    all_goals first
      | exact ⟨hb.1, hk _ hb.2⟩
      | exact hk _ hb
      | exact hb.elim
  · exact hb.elim

/-- The one value that comes of it. -/
theorem vop_val {ao : AOp} (hv : vop h ev ao K) : ∃ v, K v ∧ vop h ev ao (fun x => x = v) := by
  revert hv
  cases ao with
  | bin op x y =>
    simp only [vop]
    split
    · intro hv
      obtain ⟨r, h1, h2⟩ := binW_val hv
      exact ⟨_, h1, binW_mono (fun r hr => by rw [hr]) h2⟩
    · exact fun hv => hv.elim
  | slice k x lo hi =>
    simp only [vop]
    split
    · rintro ⟨l, u, h1, h2, h3, h4, h5, h6, h7⟩
      exact ⟨_, h7, l, u, h1, h2, h3, h4, h5, h6, rfl⟩
    · exact fun hv => hv.elim
  | sliceS x lo hi =>
    simp only [vop]
    split
    · rintro ⟨l, u, h1, h2, h3, h4, h5, h7⟩
      exact ⟨_, h7, l, u, h1, h2, h3, h4, h5, rfl⟩
    · exact fun hv => hv.elim
  | indexAddr k x y =>
    simp only [vop]
    split
    · rename_i c es kk j e1 e2
      rintro ⟨⟨h0, h1⟩, h2⟩
      have hlt : j.toNat < es.length := by omega
      obtain ⟨h3, h4, h5⟩ := h2 _ (List.getElem?_eq_getElem hlt)
      refine ⟨_, h5, ⟨h0, h1⟩, fun e he => ?_⟩
      rw [List.getElem?_eq_getElem hlt] at he
      cases he
      exact ⟨h3, h4, rfl⟩
    · exact fun hv => ⟨_, hv.2, hv.1, rfl⟩
    · exact fun hv => hv.elim
  | indexS x y =>
    simp only [vop]
    split
    · rename_i s kk j e1 e2
      rintro ⟨⟨h0, h1⟩, h2⟩
      have hlt : j.toNat < s.size := by omega
      have hs : s[j.toNat]? = some s[j.toNat] := by simp [hlt]
      refine ⟨_, h2 _ hs, ⟨h0, h1⟩, fun e he => ?_⟩
      rw [hs] at he
      cases he
      rfl
    · exact fun hv => hv.elim
  | indexArr l k n x y =>
    simp only [vop]
    split
    · rename_i cs kk j e1 e2
      rintro ⟨⟨h0, h1⟩, h2, h3, h4⟩
      cases n with
      | some n => exact ⟨_, h2, ⟨h0, h1⟩, rfl, h3, h4⟩
      | none =>
        have hlt : j.toNat * k < cs.length := by
          have : j.toNat < l := by omega
          calc j.toNat * k < l * k := Nat.mul_lt_mul_of_pos_right this h4
            _ ≤ cs.length := h3
        refine ⟨_, h2 _ (List.getElem?_eq_getElem hlt), ⟨h0, h1⟩, fun e he => ?_, h3, h4⟩
        rw [List.getElem?_eq_getElem hlt] at he
        cases he
        rfl
    · exact fun hv => hv.elim
  | mkIface t x => exact fun hv => ⟨_, hv, rfl⟩
  | mkFunc f a b => exact fun hv => ⟨_, hv, rfl⟩
  | move x => exact fun hv => ⟨_, hv, rfl⟩
  | load n x =>
    simp only [vop]
    split
    · split
      · cases n with
        | none =>
          simp only
          split
          · exact fun hv => ⟨_, hv, rfl⟩
          · exact fun hv => hv.elim
        | some n => exact fun hv => ⟨_, hv.2, hv.1, rfl⟩
      · exact fun hv => hv.elim
    · cases n with
      | none =>
        simp only
        split
        · exact fun hv => ⟨_, hv, rfl⟩
        · exact fun hv => hv.elim
      | some n => exact fun hv => ⟨_, hv.2, hv.1, rfl⟩
    · exact fun hv => hv.elim
  | field off n x =>
    simp only [vop]
    split
    · cases n with
      | none =>
        simp only
        split
        · exact fun hv => ⟨_, hv, rfl⟩
        · exact fun hv => hv.elim
      | some n => exact fun hv => ⟨_, hv, rfl⟩
    · exact fun hv => hv.elim
  | len b x => cases b <;> simp only [vop] <;> split <;> first | exact fun hv => ⟨_, hv, rfl⟩ | exact fun hv => hv.elim
  | toStr x =>
    simp only [vop]
    split
    · split
      · exact fun hv => ⟨_, hv, rfl⟩
      · exact fun hv => hv.elim
    · exact fun hv => hv.elim
  | extract x i =>
    simp only [vop]
    split
    · split
      · exact fun hv => ⟨_, hv, rfl⟩
      · exact fun hv => hv.elim
    · exact fun hv => hv.elim
  | indexAddrArr l k x y => simp only [vop]; split <;> first | exact fun hv => ⟨_, hv.2, hv.1, rfl⟩ | exact fun hv => hv.elim
  | pick c a b => simp only [vop]; split <;> first | exact fun hv => ⟨_, hv, rfl⟩ | exact fun hv => hv.elim
  | nilCheck x => simp only [vop]; split <;> first | exact fun hv => ⟨_, hv, rfl⟩ | exact fun hv => hv.elim
  | minmax op x y => simp only [vop]; split <;> first | exact fun hv => ⟨_, hv, rfl⟩ | exact fun hv => hv.elim
  | eqB op x y => simp only [vop]; split <;> first | exact fun hv => ⟨_, hv, rfl⟩ | exact fun hv => hv.elim
  | eqN op k x y => simp only [vop]; split <;> first | exact fun hv => ⟨_, hv, rfl⟩ | exact fun hv => hv.elim
  | eqS op k x y => simp only [vop]; (repeat' split) <;> first | exact fun hv => ⟨_, hv, rfl⟩ | exact fun hv => hv.elim
  | un op x => simp only [vop]; split <;> first | exact fun hv => ⟨_, hv, rfl⟩ | exact fun hv => hv.elim
  | conv k x => simp only [vop]; split <;> first | exact fun hv => ⟨_, hv, rfl⟩ | exact fun hv => hv.elim
  | convS x => simp only [vop]; split <;> first | exact fun hv => ⟨_, hv, rfl⟩ | exact fun hv => hv.elim
  | fieldAddr k x => simp only [vop]; split <;> first | exact fun hv => ⟨_, hv, rfl⟩ | exact fun hv => hv.elim
  | build zero parts => simp only [vop]; split <;> first | exact fun hv => ⟨_, hv, rfl⟩ | exact fun hv => hv.elim
  | _ => exact fun hv => hv.elim

end Go.Abs

namespace Go.Abs
open Go Go.RowKit

variable {E : Env} {B : Base} {σ : ASt} {a : Act} {w : World} {g : Gh} {K : ASt → Prop} {Q : AEx → ASt → Prop} {o : Oper} {P : Program}

theorem adop_congr {h : List AObj} {ev ev' : Operand → AV} {K : AV → Prop} (ao : AOp) (hh : ∀ x, x ∈ ao.ops → ev x = ev' x) : adop E h ev ao K = adop E h ev' ao K := by
  unfold adop
  cases ao with
  | buildSlice obj k zero len parts =>
    cases obj with
    | true => exact vop_congr _ hh
    | false =>
      have h1 : ∀ p, p ∈ parts → ev p.2 = ev' p.2 := fun p hp => hh _ (by simp only [AOp.ops, List.mem_map]; exact ⟨p, hp, rfl⟩)
      simp only
      rw [List.map_congr_left h1]
      congr 1
      apply propext
      constructor
      · rintro ⟨a1, a2, a3, a4, a5⟩; exact ⟨a1, a2, a3, a4, fun p hp => by rw [← h1 p hp]; exact a5 p hp⟩
      · rintro ⟨a1, a2, a3, a4, a5⟩; exact ⟨a1, a2, a3, a4, fun p hp => by rw [h1 p hp]; exact a5 p hp⟩
  | call f args =>
    have h1 : ∀ p, p ∈ args → ev p.1 = ev' p.1 := fun p hp => hh _ (by simp only [AOp.ops, List.mem_cons, List.mem_map]; exact .inr ⟨p, hp, rfl⟩)
    simp only
    rw [hh f (by simp [AOp.ops]), List.map_congr_left h1]
  | toBytes x => simp only; rw [hh x (by simp [AOp.ops])]
  | _ => exact vop_congr _ hh

theorem vop_mono {h : List AObj} {ev : Operand → AV} {K K' : AV → Prop} (hk : ∀ v, K v → K' v) {ao : AOp} (hv : vop h ev ao K) : vop h ev ao K' := by
  revert hv
  cases ao with
  | bin op x y =>
    simp only [vop]
    split
    · exact binW_mono fun r hr => hk _ hr
    · exact fun hv => hv.elim
  | slice k x lo hi =>
    simp only [vop]
    split
    · rintro ⟨l, u, h1, h2, h3, h4, h5, h6, h7⟩
      exact ⟨l, u, h1, h2, h3, h4, h5, h6, hk _ h7⟩
    · exact fun hv => hv.elim
  | sliceS x lo hi =>
    simp only [vop]
    split
    · rintro ⟨l, u, h1, h2, h3, h4, h5, h7⟩
      exact ⟨l, u, h1, h2, h3, h4, h5, hk _ h7⟩
    · exact fun hv => hv.elim
  | indexAddr k x y =>
    simp only [vop]
    split
    · rintro ⟨h0, h2⟩
      exact ⟨h0, fun e he => ⟨(h2 e he).1, (h2 e he).2.1, hk _ (h2 e he).2.2⟩⟩
    · exact fun hv => ⟨hv.1, hk _ hv.2⟩
    · exact fun hv => hv.elim
  | indexS x y =>
    simp only [vop]
    split
    · rintro ⟨h0, h2⟩
      exact ⟨h0, fun e he => hk _ (h2 e he)⟩
    · exact fun hv => hv.elim
  | indexArr l k n x y =>
    simp only [vop]
    split
    · cases n with
      | some n => exact fun hv => ⟨hv.1, hk _ hv.2.1, hv.2.2⟩
      | none => exact fun hv => ⟨hv.1, fun e he => hk _ (hv.2.1 e he), hv.2.2⟩
    · exact fun hv => hv.elim
  | len b x => cases b <;> simp only [vop] <;> split <;> first | exact fun hv => hk _ hv | exact fun hv => hv.elim
  | load n x => simp only [vop]; (repeat' split) <;> intro hv <;> first | exact hv.elim | exact hk _ hv | exact ⟨hv.1, hk _ hv.2⟩
  | field n k x => simp only [vop]; (repeat' split) <;> intro hv <;> first | exact hv.elim | exact hk _ hv
  | toStr x => simp only [vop]; (repeat' split) <;> intro hv <;> first | exact hv.elim | exact hk _ hv
  | extract x i => simp only [vop]; (repeat' split) <;> intro hv <;> first | exact hv.elim | exact hk _ hv
  | indexAddrArr l k x y => simp only [vop]; (repeat' split) <;> intro hv <;> first | exact hv.elim | exact ⟨hv.1, hk _ hv.2⟩
  | move x => exact hk _
  | mkIface t x => exact hk _
  | mkFunc f a b => exact hk _
  | pick c a b => simp only [vop]; split <;> intro hv <;> first | exact hv.elim | exact hk _ hv
  | nilCheck x => simp only [vop]; split <;> intro hv <;> first | exact hv.elim | exact hk _ hv
  | minmax op x y => simp only [vop]; split <;> intro hv <;> first | exact hv.elim | exact hk _ hv
  | eqB op x y => simp only [vop]; split <;> intro hv <;> first | exact hv.elim | exact hk _ hv
  | eqN op k x y => simp only [vop]; split <;> intro hv <;> first | exact hv.elim | exact hk _ hv
  | eqS op k x y => simp only [vop]; (repeat' split) <;> intro hv <;> first | exact hv.elim | exact hk _ hv
  | un op x => simp only [vop]; split <;> intro hv <;> first | exact hv.elim | exact hk _ hv
  | conv k x => simp only [vop]; split <;> intro hv <;> first | exact hv.elim | exact hk _ hv
  | convS x => simp only [vop]; split <;> intro hv <;> first | exact hv.elim | exact hk _ hv
  | fieldAddr k x => simp only [vop]; split <;> intro hv <;> first | exact hv.elim | exact hk _ hv
  | build zero parts => simp only [vop]; split <;> intro hv <;> first | exact hv.elim | exact hk _ hv
  | _ => exact fun hv => hv.elim

theorem adop_val {h : List AObj} {ev : Operand → AV} {K : AV → Prop} {ao : AOp} (hv : adop E h ev ao K) : ∃ v, K v ∧ adop E h ev ao (fun x => x = v) := by
  unfold adop at hv ⊢
  revert hv
  split
  · exact fun hv => ⟨_, hv.2, hv.1, rfl⟩
  · split
    · exact fun hv => ⟨_, hv, rfl⟩
    · exact fun hv => hv.elim
  · split
    · rintro ⟨v, h1, h2⟩; exact ⟨_, h2, v, h1, rfl⟩
    · exact fun hv => hv.elim
  · exact vop_val

theorem adop_aop {d : Option Nat} {ao : AOp} {K : AV → Prop} (hnt : ∀ x, ao ≠ .toBytes x) (hv : adop E σ.heap (σ.ev E) ao K) : aop E σ d (fun σ' => ∃ v, K v ∧ σ' = σ.putO d v) Q ao := by
  unfold adop at hv
  revert hv
  split
  · rintro ⟨h1, h2⟩; exact ⟨h1, _, h2, rfl⟩
  · exact absurd rfl (hnt _)
  · rename_i f args
    split
    · rename_i fid first caps heq
      rintro ⟨v, h1, h2⟩
      simp only [aop, fnOf, heq]
      refine Ev.mono h1 fun r h' hrh => ?_
      obtain ⟨hr, hh⟩ := hrh
      subst hr hh
      exact ⟨_, h2, rfl⟩
    · exact fun hv => hv.elim
  · rename_i h1 h2 h3
    intro hv
    have hv2 := vop_mono (K' := fun x => ∃ v, K v ∧ σ.putO d x = σ.putO d v) (fun x hx => ⟨x, hx, rfl⟩) hv
    cases ao with
    | take t => exact hv.elim
    | box x => exact hv.elim
    | alloc x => exact hv.elim
    | store n x y => exact hv.elim
    | append k b z s x => exact hv.elim
    | toBytes x => exact absurd rfl (hnt x)
    | buildSlice obj k zero len parts => exact hv.elim
    | call f args => exact absurd rfl (h3 f args)
    | panic x => exact hv.elim
    | conv8 x => exact hv.elim
    | boxB e te x => exact hv.elim
    | _ => exact hv2

theorem cop_toBytes {P : Program} {op : Op} {x : Operand} (hc : cop P op = some (.toBytes x)) :
    ∃ src dst e, op = .convert src dst x ∧ P.underlying src = some .string ∧ P.underlying dst = some (.slice e) ∧ P.underlying e = some (.int .u8) := by
  cases op with
  | convert src dst y =>
    simp only [cop] at hc
    repeat' split at hc
    all_goals first
      | (cases hc; done)
      | (rename_i h1 h2 _ h3; cases hc; exact ⟨_, _, _, rfl, h1, h2, h3⟩)
  | call c =>
    obtain ⟨callee, args, argTypes⟩ := c
    cases callee with
    | value f => simp only [cop] at hc; cases hc
    | invoke r m => simp [cop] at hc
    | builtin b =>
      cases b <;> first
        | (simp [cop] at hc; done)
        | (simp only [cop] at hc; repeat' split at hc
           all_goals (cases hc; done))
  | slice t x lo hi mx =>
    cases mx with
    | some _ => simp [cop] at hc
    | none => simp only [cop] at hc; repeat' split at hc
              all_goals (cases hc; done)
  | _ =>
    first
      | (simp [cop] at hc; done)
      | (simp only [cop] at hc; cases hc; done)
      | (simp only [cop] at hc; repeat' split at hc
         all_goals (cases hc; done))

theorem adop_sound {ao : AOp} {K : AV → Prop} (hc : cop E.P o.op = some ao) (hd : DstOk B.nt o.dst) (hR : RA E B σ a w g) (hv : adop E σ.heap (σ.ev E) ao K) :
    o.wp E.P a w (KC E B fun σ' => ∃ v, K v ∧ σ' = σ.putO o.dst v) (QC E B Q) := by
  by_cases hnt : ∃ x, ao = .toBytes x
  · obtain ⟨x, rfl⟩ := hnt
    obtain ⟨src, dst, e, ho, h1, h2, h3⟩ := cop_toBytes hc
    simp only [adop] at hv
    split at hv
    · rename_i s hx
      exact op_toBytesU ho h1 h2 h3 hd hR hx ⟨_, hv, rfl⟩
    · exact hv.elim
  · exact op_sound (tk := false) (by simpa [copT] using hc) hd hR (adop_aop (fun x hx => hnt ⟨x, hx⟩) hv)

theorem placed_ops {place : Nat → Option (Nat × Nat)} : ∀ {parts : List (Nat × Operand)} {ps : List (Nat × Nat × Operand)}, placed place parts = some ps → ps.map (·.2.2) = parts.map (·.2)
  | [], ps, h => by simp [placed] at h; subst h; rfl
  | (i, x) :: parts, ps, h => by
    simp only [placed] at h
    split at h
    · rename_i off n l h1 h2
      cases h
      simp [placed_ops h2]
    · cases h

theorem cop_ops {op : Op} {ao : AOp} (hc : cop P op = some ao) : ∀ x, x ∈ ao.ops → x ∈ op.operands.toList := by
  cases op with
  | binOp op t x y ty =>
    simp only [cop] at hc
    split at hc
    · cases op <;> simp at hc <;> subst hc <;> simp [AOp.ops, Op.operands]
    · split at hc
      · cases hc; simp [AOp.ops, Op.operands]
      · split at hc
        · cases op <;> simp at hc <;> subst hc <;> simp [AOp.ops, Op.operands]
        · split at hc
          · cases op <;> simp at hc <;> subst hc <;> simp [AOp.ops, Op.operands]
          · cases hc
  | convert src dst x =>
    simp only [cop] at hc
    split at hc
    · cases hc; simp [AOp.ops, Op.operands]
    · cases hc; simp [AOp.ops, Op.operands]
    · split at hc <;> cases hc; simp [AOp.ops, Op.operands]
    · split at hc <;> cases hc; simp [AOp.ops, Op.operands]
    · split at hc
      · split at hc <;> cases hc; simp [AOp.ops]
      · cases hc
    · cases hc
  | slice t x lo hi mx =>
    cases mx with
    | some _ => simp [cop] at hc
    | none =>
      simp only [cop] at hc
      split at hc
      · cases hc; cases lo <;> cases hi <;> simp [AOp.ops, Op.operands]
      · split at hc <;> cases hc; cases lo <;> cases hi <;> simp [AOp.ops, Op.operands]
      · cases hc
  | fieldAddr s x f =>
    simp only [cop] at hc
    split at hc
    · split at hc
      · split at hc
        · split at hc <;> cases hc; simp [AOp.ops, Op.operands]
        · cases hc
      · cases hc
    · cases hc
  | field s x f =>
    simp only [cop] at hc
    split at hc
    · split at hc
      · split at hc <;> cases hc; simp [AOp.ops, Op.operands]
      · cases hc
    · cases hc
  | indexAddr t x i =>
    simp only [cop] at hc
    split at hc
    · split at hc <;> cases hc; simp [AOp.ops, Op.operands]
    · split at hc <;> cases hc; simp [AOp.ops, Op.operands]
    · cases hc
  | index t x i =>
    simp only [cop] at hc
    split at hc
    · cases hc; simp [AOp.ops, Op.operands]
    · split at hc <;> cases hc; simp [AOp.ops, Op.operands]
    · cases hc
  | load t x => simp only [cop] at hc; split at hc <;> cases hc; simp [AOp.ops, Op.operands]
  | store t x y => simp only [cop] at hc; split at hc <;> cases hc; simp [AOp.ops]
  | makeInterface t x =>
    simp only [cop] at hc
    split at hc <;> cases hc; simp [AOp.ops, Op.operands]
  | build t parts =>
    simp only [cop] at hc
    split at hc
    · split at hc
      · split at hc
        · rename_i hp; cases hc; simp only [AOp.ops, placed_ops hp, Op.operands]; intro x hx; simpa using hx
        · cases hc
      · cases hc
    · split at hc
      · split at hc
        · rename_i hp; cases hc; simp only [AOp.ops, placed_ops hp, Op.operands]; intro x hx; simpa using hx
        · cases hc
      · cases hc
    · cases hc
  | buildSlice t len parts =>
    simp only [cop] at hc
    split at hc
    · split at hc
      · split at hc
        · cases hc; simp only [AOp.ops, Op.operands]; intro x hx; simpa using hx
        · cases hc
      · cases hc
    · cases hc
  | makeSlice t l c =>
    simp only [cop] at hc
    split at hc
    · split at hc
      · split at hc <;> cases hc; simp [AOp.ops]
      · cases hc
    · cases hc
  | alloc t =>
    simp only [cop] at hc
    split at hc
    · split at hc <;> cases hc; simp [AOp.ops]
    · cases hc
  | call c =>
    obtain ⟨callee, args, argTypes⟩ := c
    cases callee with
    | value f =>
      simp only [cop] at hc; cases hc
      simp only [AOp.ops, Op.operands, Call.operands]
      intro x hx
      simpa using hx
    | invoke r m => simp [cop] at hc
    | builtin b =>
      cases b <;> try (simp [cop] at hc; done)
      case len =>
        simp only [cop] at hc
        split at hc
        · rename_i x t hx ht
          have hmem : x ∈ args := Array.mem_of_getElem? hx
          split at hc <;> cases hc <;> (intro y hy; simp [AOp.ops] at hy; subst hy; simpa [Op.operands, Call.operands] using hmem)
        · cases hc
      case max => simp only [cop] at hc; split at hc <;> cases hc; rename_i x1 x2 ha; intro y hy; have hm : y ∈ args.toList := by { rw [ha]; simpa [AOp.ops] using hy }; simpa [Op.operands, Call.operands] using hm
      case min => simp only [cop] at hc; split at hc <;> cases hc; rename_i x1 x2 ha; intro y hy; have hm : y ∈ args.toList := by { rw [ha]; simpa [AOp.ops] using hy }; simpa [Op.operands, Call.operands] using hm
      case append =>
        simp only [cop] at hc
        split at hc
        · split at hc
          · split at hc
            · split at hc <;> cases hc; simp [AOp.ops]
            · split at hc <;> cases hc; simp [AOp.ops]
            · cases hc
          · cases hc
        · cases hc
  | move x => simp only [cop] at hc; cases hc; simp [AOp.ops, Op.operands]
  | assign x => simp only [cop] at hc; cases hc; simp [AOp.ops, Op.operands]
  | pick c a b => simp only [cop] at hc; cases hc; simp [AOp.ops, Op.operands]
  | nilCheck x => simp only [cop] at hc; cases hc; simp [AOp.ops, Op.operands]
  | unOp op t x => simp only [cop] at hc; cases hc; simp [AOp.ops, Op.operands]
  | extract x i => simp only [cop] at hc; cases hc; simp [AOp.ops, Op.operands]
  | makeFunc f first caps => simp only [cop] at hc; cases hc; intro x hx; simpa [AOp.ops, Op.operands] using hx
  | box t x => simp only [cop] at hc; cases hc; simp [AOp.ops]
  | panic x => simp only [cop] at hc; cases hc; simp [AOp.ops]
  | _ => simp [cop] at hc

end Go.Abs

namespace Go.Abs
open Go Go.RowKit

variable {E : Env} {B : Base} {K : ASt → Prop} {Q : AEx → ASt → Prop}

def AStep (E : Env) (σ : ASt) (o : AOper) (v : AV) : Prop :=
  match o.guard with
  | none => adop E σ.heap (σ.ev E) o.op (fun x => x = v)
  | some (t, want) => match guardIs (look σ.tmps t) with
    | .yes b => (b = want → adop E σ.heap (σ.ev E) o.op (fun x => x = v)) ∧ (b = (!want) → v = .lit undef)
    | .never => v = .lit undef
    | .unknown => False

def pre (σ : ASt) : List AOper → List AV → Nat → ASt
  | _, _, 0 => σ
  | [], _, _ => σ
  | _, [], _ => σ
  | o :: as, v :: vs, i + 1 => pre (σ.putO o.dst v) as vs i

theorem adraw_vals : ∀ (as : List AOper) (σ : ASt), adraw E K as σ → ∃ vals, vals.length = as.length ∧
    (∀ i o v, as[i]? = some o → vals[i]? = some v → AStep E (pre σ as vals i) o v) ∧ K (pre σ as vals as.length)
  | [], σ, h => ⟨[], rfl, fun i o v ho => by simp at ho, h⟩
  | o :: as, σ, h => by
    have main : ∀ v, AStep E σ o v → adraw E K as (σ.putO o.dst v) → ∃ vals, vals.length = (o :: as).length ∧
        (∀ i o' v, (o :: as)[i]? = some o' → vals[i]? = some v → AStep E (pre σ (o :: as) vals i) o' v) ∧ K (pre σ (o :: as) vals (o :: as).length) := by
      intro v hs hr
      obtain ⟨vals, h1, h2, h3⟩ := adraw_vals as _ hr
      refine ⟨v :: vals, by simp [h1], fun i o' v' ho hv => ?_, h3⟩
      cases i with
      | zero => simp at ho hv; subst ho hv; exact hs
      | succ i => simp at ho hv; exact h2 i o' v' ho hv
    simp only [adraw] at h
    unfold AStep at main
    cases hg : o.guard with
    | none =>
      simp only [hg] at h main
      obtain ⟨v, h1, h2⟩ := adop_val h
      exact main v h2 h1
    | some tw =>
      obtain ⟨t, want⟩ := tw
      simp only [hg] at h main
      cases hgi : guardIs (look σ.tmps t) with
      | yes b =>
        simp only [hgi] at h main
        by_cases hb : b = want
        · obtain ⟨v, h1, h2⟩ := adop_val (h.1 (by simpa using hb))
          exact main v ⟨fun _ => h2, fun hb' => by subst hb; cases b <;> cases hb'⟩ h1
        · exact main _ ⟨fun hb' => absurd hb' hb, fun _ => rfl⟩ (h.2 (by simpa using hb))
      | never => simp only [hgi] at h main; exact main _ rfl h
      | unknown => simp only [hgi] at h

/-- The last of the listed operations, below n, that writes t. -/
def lastW (as : List AOper) (vals : List AV) (L : Nat → Bool) (t : Nat) : Nat → Option AV
  | 0 => none
  | n + 1 => if L n = true ∧ (as[n]?).bind (·.dst) = some t then vals[n]? else lastW as vals L t n

theorem lastW_congr {as : List AOper} {vals : List AV} {L L' : Nat → Bool} {t : Nat} : ∀ (n : Nat), (∀ j, j < n → (as[j]?).bind (·.dst) = some t → L j = L' j) → lastW as vals L t n = lastW as vals L' t n
  | 0, _ => rfl
  | n + 1, h => by
    simp only [lastW]
    rw [lastW_congr n fun j hj => h j (by omega)]
    by_cases hd : (as[n]?).bind (·.dst) = some t
    · rw [h n (by omega) hd]
    · rw [if_neg (fun hh => hd hh.2), if_neg (fun hh => hd hh.2)]

theorem lastW_none {as : List AOper} {vals : List AV} {L : Nat → Bool} {t : Nat} : ∀ (n : Nat), (∀ j, j < n → L j = false) → lastW as vals L t n = none
  | 0, _ => rfl
  | n + 1, h => by
    simp only [lastW]
    rw [if_neg (by simp [h n (by omega)]), lastW_none n fun j hj => h j (by omega)]

theorem lastW_above {as : List AOper} {vals : List AV} {L : Nat → Bool} {t m : Nat} : ∀ (n : Nat), m ≤ n → (∀ j, m ≤ j → j < n → (as[j]?).bind (·.dst) = some t → L j = false) → lastW as vals L t n = lastW as vals L t m
  | 0, h, _ => by have : m = 0 := by omega
                  subst this; rfl
  | n + 1, h, hh => by
    by_cases hm : m = n + 1
    · subst hm; rfl
    · simp only [lastW]
      rw [if_neg (fun hx => by have := hh n (by omega) (by omega) hx.2; rw [this] at hx; cases hx.1)]
      exact lastW_above n (by omega) fun j h1 h2 => hh j h1 (by omega)

theorem look_putO {σ : ASt} {d : Option Nat} {v : AV} {t : Nat} : look (σ.putO d v).tmps t = if d = some t then v else look σ.tmps t := by
  cases d with
  | none => simp [ASt.putO]
  | some i =>
    simp only [ASt.putO, ASt.put, look]
    by_cases h : i = t
    · subst h; simp
    · rw [if_neg h, if_neg (by simpa using h)]

theorem heap_putO {σ : ASt} {d : Option Nat} {v : AV} : (σ.putO d v).heap = σ.heap := by cases d <;> rfl

/-- What the state behind the first i operations holds. -/
theorem pre_look : ∀ (as : List AOper) (vals : List AV) (σ : ASt) (i t : Nat), vals.length = as.length → i ≤ as.length →
    (pre σ as vals i).heap = σ.heap ∧ look (pre σ as vals i).tmps t = (lastW as vals (fun _ => true) t i).getD (look σ.tmps t)
  | as, vals, σ, 0, t, _, _ => by cases as <;> cases vals <;> simp [pre, lastW]
  | [], vals, σ, i + 1, t, _, h => by simp at h
  | o :: as, [], σ, i + 1, t, h, _ => by simp at h
  | o :: as, v :: vals, σ, i + 1, t, hl, hi => by
    simp only [List.length_cons] at hl hi
    obtain ⟨h1, h2⟩ := pre_look as vals (σ.putO o.dst v) i t (by omega) (by omega)
    simp only [pre]
    refine ⟨by rw [h1, heap_putO], ?_⟩
    rw [h2, look_putO]
    clear h1 h2
    induction i with
    | zero =>
      simp only [lastW, List.getElem?_cons_zero, Option.bind_some, true_and, Option.getD_none]
      by_cases hd : o.dst = some t
      · rw [if_pos hd, if_pos hd]; rfl
      · rw [if_neg hd, if_neg hd]; rfl
    | succ i ih =>
      have ih := ih (by omega)
      simp only [lastW, true_and, List.getElem?_cons_succ] at ih ⊢
      by_cases hd : (as[i]?).bind (·.dst) = some t
      · rw [if_pos hd, if_pos hd]
        have hv : i < vals.length := by
          cases ha : as[i]? with
          | none => rw [ha] at hd; cases hd
          | some _ => have := (List.getElem?_eq_some_iff.1 ha).1; omega
        rw [List.getElem?_eq_getElem hv]; rfl
      · rw [if_neg hd, if_neg hd]; exact ih

theorem compOps_get {P : Program} {nt : Nat} {hs : Hints} {id : Nat} {ops : Array Oper} : ∀ (l : List Nat) (as : List AOper), compOps P nt hs id ops l = some as → as.length = l.length ∧
    ∀ (j i : Nat) (o : Oper), l[j]? = some i → ops[i]? = some o → ∃ ao gd, as[j]? = some ({ dst := o.dst, op := ao, guard := gd } : AOper) ∧ copT P (hs.contains (id, i)) o.op = some ao ∧ guardOf ops o.guard = some gd ∧ dstOk nt o.dst = true
  | [], as, h => by simp [compOps] at h; subst h; exact ⟨rfl, fun j i o hj => by simp at hj⟩
  | i :: l, as, h => by
    unfold compOps at h
    split at h
    · cases h
    · rename_i o ho
      split at h
      · rename_i ao gd rest hao hgd hrest
        split at h
        · rename_i hd
          cases h
          obtain ⟨h1, h2⟩ := compOps_get l rest hrest
          refine ⟨by simp [h1], fun j i' o' hj ho' => ?_⟩
          cases j with
          | zero => simp at hj; subst hj; rw [ho] at ho'; cases ho'; exact ⟨ao, gd, by simp, hao, hgd, hd⟩
          | succ j => simp at hj; simpa using h2 j i' o' hj ho'
        · cases h
      · cases h


theorem orderOk_spec {ops : Array Oper} (h : orderOk ops = true) : Region.noSelect ops = true ∧ ∀ j oj, ops[j]? = some oj →
    (∀ e ∈ oj.after, Region.binds .any e = true → e.on < j) ∧ ∀ i oi, i < j → ops[i]? = some oi → (∃ e ∈ oj.after, Region.binds .any e = true ∧ e.on = i) ∨ oi.apart ops oj = true := by
  simp only [orderOk, Bool.and_eq_true, List.all_eq_true, List.mem_range] at h
  refine ⟨h.1, fun j oj hj => ?_⟩
  have h1 := h.2 j (Array.getElem?_eq_some_iff.1 hj).1
  simp only [hj, Bool.and_eq_true, List.all_eq_true, List.mem_range] at h1
  refine ⟨fun e he hb => ?_, fun i oi hi hoi => ?_⟩
  · have := Array.all_eq_true_iff_forall_mem.1 h1.1 e he
    simpa [hb] using this
  · have := h1.2 i hi
    simp only [hoi, Bool.or_eq_true] at this
    refine this.imp (fun ha => ?_) id
    obtain ⟨e, he, hb⟩ := Array.any_eq_true'.1 ha
    simp only [Bool.and_eq_true, beq_iff_eq] at hb
    exact ⟨e, he, hb⟩

theorem Oper.wp_post {P : Program} {o : Oper} {a : Act} {w : World} {K : Act → World → Prop} {Q Q' : Exit → Act → World → Prop} (hq : ∀ c a w, Q c a w → Q' c a w) (hh : o.wp P a w K Q) : o.wp P a w K Q' := by
  unfold Oper.wp at *
  generalize (execOp a.eval o).run P w = r at *
  cases r with
  | ok n w' =>
    cases n <;> simp only [Oper.upon] at hh ⊢ <;>
      first
        | exact hh
        | exact Calls.mono hh (fun e w'' he => by
            cases e with
            | returned v => exact he
            | panicked c => exact hq _ _ _ he
            | outgrown => obtain ⟨a', w', h⟩ := he; exact ⟨a', w', hq _ _ _ h⟩)
  | halt x w' =>
    cases x <;> simp only [Oper.upon] at hh ⊢ <;> first | exact hh | exact hq _ _ _ hh

theorem Oper.wp_noQ {P : Program} {o : Oper} {a : Act} {w : World} {K : Act → World → Prop} {Q' : Exit → Act → World → Prop} (hh : o.wp P a w K (QC E B fun _ _ => False)) : o.wp P a w K Q' := by
  have no : ∀ e a w, ¬ QC E B (fun _ _ => False) e a w := fun e a w ⟨_, _, _, h, _⟩ => h
  unfold Oper.wp at *
  generalize (execOp a.eval o).run P w = r at *
  cases r with
  | ok n w' =>
    cases n <;> simp only [Oper.upon] at hh ⊢ <;>
      first
        | exact hh
        | exact Calls.mono hh (fun e w'' he => by
            cases e with
            | returned v => exact he
            | panicked c => exact absurd he (no _ _ _)
            | outgrown => obtain ⟨a', w', h⟩ := he; exact absurd h (no _ _ _))
  | halt x w' =>
    cases x <;> simp only [Oper.upon] at hh ⊢ <;> first | exact hh | exact absurd hh (no _ _ _)

/-- ONE WALK IN THE TEXT's ORDER SERVES EVERY ORDER. -/
theorem any_pre {Qs : Exit → Act → World → Prop} {ops : Array Oper} {id n p : Nat} {as : List AOper} {vals : List AV} {σ : ASt} (hnle : n ≤ ops.size) (hc : compOps E.P B.nt [] id ops (List.range n) = some as) (ho : orderOk ops = true)
    (hl : vals.length = as.length) (hst : ∀ i o v, p ≤ i → as[i]? = some o → vals[i]? = some v → AStep E (pre σ as vals i) o v) (hanc : ∀ (listed : Array Bool), (∀ j, j < ops.size → listed.getD j false = true → ∀ oj e, ops[j]? = some oj → e ∈ oj.after → Region.binds .any e = true → listed.getD e.on false = true) →
      ∀ i oi, n ≤ i → ops[i]? = some oi → (∀ e ∈ oi.after, Region.binds .any e = true → listed.getD e.on false = true) → ∀ j, j < n → listed.getD j false = true)
    (Hend : ∀ (fuel : Nat) (listed : Array Bool) (tmps : List (Nat × AV)) (a : Act) (w : World) (g : Gh), listed.size = ops.size → (∀ j, j < n → listed.getD j false = true) → (∀ j, n ≤ j → listed.getD j false = false) →
      (∀ t, look tmps t = look (pre σ as vals as.length).tmps t) → (pre σ as vals as.length).heap = σ.heap →
      ((List.range ops.size).filter fun j => !listed.getD j false).length ≤ fuel → RA E B { σ with tmps := tmps } a w g → wpAny E.P .any ops Qs fuel listed a w) :
    ∀ (fuel : Nat) (listed : Array Bool) (tmps : List (Nat × AV)) (a : Act) (w : World) (g : Gh), listed.size = ops.size →
      (∀ j, j < ops.size → listed.getD j false = true → ∀ oj e, ops[j]? = some oj → e ∈ oj.after → Region.binds .any e = true → listed.getD e.on false = true) →
      (∀ j, n ≤ j → listed.getD j false = false) → (∀ j, j < p → listed.getD j false = true) →
      (∀ t, look tmps t = (lastW as vals (fun j => listed.getD j false) t as.length).getD (look σ.tmps t)) →
      ((List.range ops.size).filter fun j => !listed.getD j false).length ≤ fuel →
      RA E B { σ with tmps := tmps } a w g → wpAny E.P .any ops Qs fuel listed a w := by
  obtain ⟨hns, hord⟩ := orderOk_spec ho
  obtain ⟨hlen, hget⟩ := compOps_get _ _ hc
  simp only [List.length_range] at hlen
  have hlt : ∀ {j o}, ops[j]? = some o → j < ops.size := fun h => (Array.getElem?_eq_some_iff.1 h).1
  have hsome : ∀ {j}, j < ops.size → ∃ o, ops[j]? = some o := fun h => ⟨_, Array.getElem?_eq_getElem h⟩
  have hdst : ∀ (j : Nat) (o : Oper), j < n → ops[j]? = some o → (as[j]?).bind (fun x : AOper => x.dst) = o.dst := fun j o hjn hj => by
    obtain ⟨ao, gd, h1, _⟩ := hget j j o (by rw [List.getElem?_range hjn]) hj
    simp [h1]
  -- where nothing may come up, all has
  have hdone : ∀ (listed : Array Bool), listed.size = ops.size → Region.ready .any ops listed = [] → ∀ j, j < ops.size → listed.getD j false = true := by
    intro listed hsz hr j
    induction j using Nat.strongRecOn with
    | _ j ih =>
      intro hj
      obtain ⟨oj, hoj⟩ := hsome hj
      rcases hb : listed.getD j false with _ | _
      · exfalso
        have : j ∈ Region.ready .any ops listed := by
          refine mem_ready.2 ⟨?_, oj, hoj, fun e he hbe => ih e.on ((hord j oj hoj).1 e he hbe) (Nat.lt_trans ((hord j oj hoj).1 e he hbe) hj)⟩
          rw [Array.getD_eq_getD_getElem?] at hb ⊢
          have hjl : j < listed.size := by omega
          rw [Array.getElem?_eq_getElem hjl] at hb ⊢
          exact hb
        rw [hr] at this; cases this
      · rfl
  have hfin : ∀ (fuel : Nat) (listed : Array Bool) (tmps : List (Nat × AV)) (a : Act) (w : World) (g : Gh), listed.size = ops.size → (∀ j, j < n → listed.getD j false = true) → (∀ j, n ≤ j → listed.getD j false = false) →
      (∀ t, look tmps t = (lastW as vals (fun j => listed.getD j false) t as.length).getD (look σ.tmps t)) → ((List.range ops.size).filter fun j => !listed.getD j false).length ≤ fuel → RA E B { σ with tmps := tmps } a w g → wpAny E.P .any ops Qs fuel listed a w := by
    intro fuel listed tmps a w g hsz hall hno hlook hf hR
    refine Hend fuel listed tmps a w g hsz hall hno (fun t => ?_) (pre_look as vals σ as.length 0 hl (Nat.le_refl _)).1 hf hR
    rw [(pre_look as vals σ as.length t hl (Nat.le_refl _)).2]
    simp only [hlook]
    rw [lastW_congr (L' := fun _ => true) _ fun j hj _ => hall j (by omega)]
  intro fuel
  induction fuel with
  | zero =>
    intro listed tmps a w g hsz hcl hno hpre hlook hf hR
    have hall : ∀ j, j < ops.size → listed.getD j false = true := fun j hj => by
      rcases hb : listed.getD j false with _ | _
      · exfalso
        have : j ∈ ((List.range ops.size).filter fun j => !listed.getD j false) := by rw [List.mem_filter]; exact ⟨List.mem_range.2 hj, by rw [hb]; rfl⟩
        rw [List.length_eq_zero_iff.1 (Nat.le_zero.1 hf)] at this; cases this
      · rfl
    exact hfin 0 listed tmps a w g hsz (fun j hj => hall j (by omega)) hno hlook hf hR
  | succ fuel ih =>
    intro listed tmps a w g hsz hcl hno hpre hlook hf hR
    by_cases hall : ∀ j, j < n → listed.getD j false = true
    · exact hfin (fuel + 1) listed tmps a w g hsz hall hno hlook hf hR
    refine ⟨fun hr => absurd (fun j hj => hdone listed hsz hr j (by omega)) hall, fun i hi => ?_⟩
    obtain ⟨hun, oi, hoi, hw⟩ := mem_ready.1 hi
    have hil := hlt hoi
    have hin : i < n := by
      rcases Nat.lt_or_ge i n with h | h
      · exact h
      · exact absurd (hanc listed hcl i oi h hoi hw) hall
    have hLi : listed.getD i false = false := by
      rw [Array.getD_eq_getD_getElem?] at hun ⊢
      rw [Array.getElem?_eq_getElem (by omega)] at hun ⊢
      exact hun
    obtain ⟨ao, gd, hai, hao, hgd, hdk⟩ := hget i i oi (by rw [List.getElem?_range hin]) hoi
    have hvi : i < vals.length := by omega
    have hpi : p ≤ i := by
      rcases Nat.lt_or_ge i p with h | h
      · have := hpre i h; rw [hLi] at this; cases this
      · exact h
    have hA := hst i _ vals[i] hpi hai (List.getElem?_eq_getElem hvi)
    have hd := dstOk_spec hdk
    -- what the operation looks at is as in the text's order
    have hsame : ∀ t, t ∈ oi.looksAt ops → look tmps t = look (pre σ as vals i).tmps t := by
      intro t ht
      rw [hlook, (pre_look as vals σ i t hl (by omega)).2]
      congr 1
      have e1 : lastW as vals (fun j => listed.getD j false) t as.length = lastW as vals (fun j => decide (j < i)) t as.length := by
        refine lastW_congr _ fun j hj hdj => ?_
        obtain ⟨oj, hoj⟩ := hsome (show j < ops.size by omega)
        rw [hdst j oj (by omega) hoj] at hdj
        rcases Nat.lt_trichotomy j i with h | h | h
        · simp only [h, decide_true]
          rcases (hord i oi hoi).2 j oj h hoj with ⟨e, he, hb, rfl⟩ | hap
          · exact hw e he hb
          · exact absurd ht ((Oper.apart_spec hap).1 t hdj)
        · subst h; simpa using hLi
        · have : ¬ j < i := by omega
          simp only [this, decide_false]
          rcases hb : listed.getD j false with _ | _
          · rfl
          · exfalso
            rcases (hord j oj hoj).2 i oi h hoi with ⟨e, he, hbe, rfl⟩ | hap
            · have := hcl j (by omega) hb oj e hoj he hbe
              rw [hLi] at this; cases this
            · exact (Oper.apart_spec hap).2.2 t hdj ht
      rw [e1, lastW_above (m := i) _ (by omega) (fun j h1 h2 _ => by simp; omega)]
      exact lastW_congr _ fun j hj _ => by simpa using hj
    -- the state behind it
    have hnext : ∀ a' w' g', RA E B (({ σ with tmps := tmps } : ASt).putO oi.dst vals[i]) a' w' g' → wpAny E.P .any ops Qs fuel (listed.setIfInBounds i true) a' w' := by
      intro a' w' g' hR'
      have heq : ({ σ with tmps := tmps } : ASt).putO oi.dst vals[i] = { σ with tmps := (({ σ with tmps := tmps } : ASt).putO oi.dst vals[i]).tmps } := by
        cases oi.dst <;> rfl
      rw [heq] at hR'
      refine ih (listed.setIfInBounds i true) _ a' w' g' (by simpa using hsz) ?_ (fun j hj => by rw [getD_set_ne false (by omega)]; exact hno j hj) (fun j hj => getD_set_true (hpre j hj)) ?_ ?_ hR'
      · intro j hj hLj oj e hoj he hbe
        by_cases hji : i = j
        · subst hji
          rw [hoi] at hoj; cases hoj
          exact getD_set_true (hw e he hbe)
        · rw [getD_set_ne false hji] at hLj
          exact getD_set_true (hcl j hj hLj oj e hoj he hbe)
      · intro t
        rw [look_putO]
        by_cases hdt : oi.dst = some t
        · rw [if_pos hdt]
          have e2 : lastW as vals (fun j => (listed.setIfInBounds i true).getD j false) t as.length = lastW as vals (fun j => (listed.setIfInBounds i true).getD j false) t (i + 1) := by
            refine lastW_above _ (by omega) fun j h1 h2 hdj => ?_
            obtain ⟨oj, hoj⟩ := hsome (show j < ops.size by omega)
            rw [hdst j oj (by omega) hoj] at hdj
            rw [getD_set_ne false (by omega)]
            rcases hb : listed.getD j false with _ | _
            · rfl
            · exfalso
              rcases (hord j oj hoj).2 i oi (by omega) hoi with ⟨e, he, hbe, rfl⟩ | hap
              · have := hcl j (by omega) hb oj e hoj he hbe
                rw [hLi] at this; cases this
              · exact (Oper.apart_spec hap).2.1 t hdt hdj
          rw [e2]
          simp only [lastW]
          rw [if_pos ⟨by rw [Array.getD_eq_getD_getElem?]; simp [Array.getElem?_setIfInBounds, hsz, hil], by rw [hdst i oi hin hoi]; exact hdt⟩, List.getElem?_eq_getElem hvi]
          rfl
        · rw [if_neg hdt]
          simp only [hlook]
          congr 1
          refine lastW_congr _ fun j hj hdj => ?_
          obtain ⟨oj, hoj⟩ := hsome (show j < ops.size by omega)
          rw [hdst j oj (by omega) hoj] at hdj
          have hji : i ≠ j := by rintro rfl; rw [hoi] at hoj; cases hoj; exact hdt hdj
          rw [getD_set_ne false hji]
      · have e3 : ((List.range ops.size).filter fun j => !(listed.setIfInBounds i true).getD j false) = (((List.range ops.size).filter fun j => !listed.getD j false).filter fun j => j != i) := by
          rw [List.filter_filter]
          refine List.filter_congr fun j hj => ?_
          by_cases hji : i = j
          · subst hji
            have : (listed.setIfInBounds i true).getD i false = true := by rw [Array.getD_eq_getD_getElem?]; simp [Array.getElem?_setIfInBounds, hsz, hil]
            rw [this]; simp
          · rw [getD_set_ne false hji]
            have : (j != i) = true := by simp; omega
            rw [this]; simp
        rw [e3]
        have : (((List.range ops.size).filter fun j => !listed.getD j false).filter fun j => j != i).length < ((List.range ops.size).filter fun j => !listed.getD j false).length := by
          rw [List.length_filter_lt_length_iff_exists]
          exact ⟨i, by rw [List.mem_filter]; exact ⟨List.mem_range.2 hil, by rw [hLi]; rfl⟩, by simp⟩
        omega
    -- it is carried out, or passed over
    have hcop : cop E.P oi.op = some ao := by simpa [copT] using hao
    have hgo : adop E (pre σ as vals i).heap ((pre σ as vals i).ev E) ao (fun x => x = vals[i]) → oi.wp E.P a w (wpAny E.P .any ops Qs fuel (listed.setIfInBounds i true)) Qs := by
      intro hv
      have hev : ∀ x, x ∈ ao.ops → (pre σ as vals i).ev E x = ({ σ with tmps := tmps } : ASt).ev E x := by
        intro x hx
        have hx' := cop_ops hcop x hx
        cases x with
        | tmp t =>
          simp only [ASt.ev]
          rw [hsame t]
          exact List.mem_append_left _ (List.mem_filterMap.2 ⟨.tmp t, hx', rfl⟩)
        | _ => rfl
      rw [adop_congr ao hev, (pre_look as vals σ i 0 hl (by omega)).1] at hv
      refine Oper.wp_mono ?_ (Oper.wp_noQ (adop_sound (Q := fun _ _ => False) hcop hd hR hv))
      rintro a' w' ⟨σ', g', ⟨v, hv', rfl⟩, hR'⟩
      subst hv'
      exact hnext a' w' g' hR'
    have hskip : vals[i] = .lit undef → wpAny E.P .any ops Qs fuel (listed.setIfInBounds i true) (a.put oi.dst undef) w := by
      intro hu
      refine hnext _ _ g ?_
      rw [hu]
      exact putO_undef hR hd
    unfold wpOp
    simp only [hoi]
    unfold AStep at hA
    cases gd with
    | none =>
      have hgn : oi.guard = none := by
        unfold guardOf at hgd
        split at hgd
        · assumption
        · split at hgd <;> cases hgd
      simp only at hA
      rw [if_pos (by simp [Region.wanted, hgn])]
      exact .inl (hgo hA)
    | some tw =>
      obtain ⟨t, want⟩ := tw
      obtain ⟨h1, h2⟩ := guard_wanted hgd hR
      have htl : t ∈ oi.looksAt ops := by
        unfold guardOf at hgd
        split at hgd
        · cases hgd
        · rename_i jj ww hgg
          split at hgd
          · rename_i t' ht'
            cases hgd
            refine List.mem_append_right _ ?_
            simp [hgg, ht']
          · cases hgd
      simp only at hA
      rw [← hsame t htl] at hA
      split at hA
      · rename_i b hb
        rw [h1 b hb]
        by_cases hbw : b = want
        · rw [if_pos (by simp [hbw])]; exact .inl (hgo (hA.1 hbw))
        · rw [if_neg (by simpa using hbw)]; exact hskip (hA.2 (by cases b <;> cases want <;> first | rfl | exact absurd rfl hbw))
      · rename_i hb
        rw [h2 hb, if_neg (by simp)]; exact hskip hA
      · exact hA.elim


theorem any_sound {ops : Array Oper} {id : Nat} {as : List AOper} {vals : List AV} {σ : ASt} (hc : compOps E.P B.nt [] id ops (List.range ops.size) = some as) (ho : orderOk ops = true)
    (hl : vals.length = as.length) (hst : ∀ i o v, as[i]? = some o → vals[i]? = some v → AStep E (pre σ as vals i) o v) (hK : K (pre σ as vals as.length)) (hKQ : ∀ σ, K σ → Q .normal σ) :
    ∀ (fuel : Nat) (listed : Array Bool) (tmps : List (Nat × AV)) (a : Act) (w : World) (g : Gh), listed.size = ops.size →
      (∀ j, j < ops.size → listed.getD j false = true → ∀ oj e, ops[j]? = some oj → e ∈ oj.after → Region.binds .any e = true → listed.getD e.on false = true) →
      (∀ t, look tmps t = (lastW as vals (fun j => listed.getD j false) t as.length).getD (look σ.tmps t)) →
      ((List.range ops.size).filter fun j => !listed.getD j false).length ≤ fuel →
      RA E B { σ with tmps := tmps } a w g → wpAny E.P .any ops (QC E B Q) fuel listed a w := by
  intro fuel listed tmps a w g hsz hcl hlook hf hR
  refine any_pre (n := ops.size) (p := 0) (Nat.le_refl _) hc ho hl (fun i o v _ => hst i o v) (fun listed _ i oi hi hoi => ?_) (fun fuel listed tmps a w g hsz hall hno hlk hheap hf hR => ?_) fuel listed tmps a w g hsz hcl (fun j hj => ?_) (fun j hj => absurd hj (Nat.not_lt_zero _)) hlook hf hR
  · have := (Array.getElem?_eq_some_iff.1 hoi).1
    omega
  · have hq : QC E B Q .normal a w := ⟨.normal, _, g, hKQ _ hK, rfl, Weak.ra (σ := { σ with tmps := tmps }) ⟨hheap, fun t => .inl (hlk t).symm⟩ hR⟩
    have hr : Region.ready .any ops listed = [] := by
      apply List.eq_nil_iff_forall_not_mem.2
      intro j hj
      obtain ⟨h1, o, ho', _⟩ := mem_ready.1 hj
      have hjl := (Array.getElem?_eq_some_iff.1 ho').1
      have := hall j hjl
      rw [Array.getD_eq_getD_getElem?] at h1 this
      rw [Array.getElem?_eq_getElem (by rw [hsz]; exact hjl)] at h1 this
      simp at h1 this
      rw [h1] at this; cases this
    cases fuel with
    | zero => exact ⟨hr, hq⟩
    | succ fuel => exact ⟨fun _ => hq, fun i hi => by rw [hr] at hi; cases hi⟩
  · rw [Array.getD_eq_getD_getElem?, Array.getElem?_eq_none (by omega)]; rfl

end Go.Abs
