/- Regions whose order is open: one walk in the text's order serves every order. -/
import Derived.Test.YtenhfnadhmjloaaDoorAbsP
set_option linter.all false
namespace Go.Abs
open Go Go.RowKit

variable {E : Env} {B : Base} {σ : ASt} {a : Act} {w : World} {g : Gh} {K : ASt → Prop} {Q : AEx → ASt → Prop} {o : Oper} {P : Program}

theorem adop_congr {h : List AObj} {ev ev' : Operand → AV} {K : AV → Prop} (ao : AOp) (hh : ∀ x, x ∈ ao.ops → ev x = ev' x) : adop E h ev ao K = adop E h ev' ao K := by
  unfold adop
  cases ao with
  | buildSlice obj k zero len parts =>
    cases obj with
    | true => exact vop_congr _ hh
    | false =>
      have h1 : ∀ p, p ∈ parts → ev p.2 = ev' p.2 := fun p hp => hh _ (by simp only [AOp.ops, List.mem_map]; exact ⟨p, hp, rfl⟩)
      simp only
      rw [List.map_congr_left h1]
      congr 1
      apply propext
      constructor
      · rintro ⟨a1, a2, a3, a4, a5⟩; exact ⟨a1, a2, a3, a4, fun p hp => by rw [← h1 p hp]; exact a5 p hp⟩
      · rintro ⟨a1, a2, a3, a4, a5⟩; exact ⟨a1, a2, a3, a4, fun p hp => by rw [h1 p hp]; exact a5 p hp⟩
  | call f args =>
    have h1 : ∀ p, p ∈ args → ev p.1 = ev' p.1 := fun p hp => hh _ (by simp only [AOp.ops, List.mem_cons, List.mem_map]; exact .inr ⟨p, hp, rfl⟩)
    simp only
    rw [hh f (by simp [AOp.ops]), List.map_congr_left h1]
  | toBytes x => simp only; rw [hh x (by simp [AOp.ops])]
  | _ => exact vop_congr _ hh

theorem vop_mono {h : List AObj} {ev : Operand → AV} {K K' : AV → Prop} (hk : ∀ v, K v → K' v) {ao : AOp} (hv : vop h ev ao K) : vop h ev ao K' := by
  revert hv
  cases ao with
  | bin op x y =>
    simp only [vop]
    split
    · exact binW_mono fun r hr => hk _ hr
    · exact fun hv => hv.elim
  | slice k x lo hi =>
    simp only [vop]
    split
    · rintro ⟨l, u, h1, h2, h3, h4, h5, h6, h7⟩
      exact ⟨l, u, h1, h2, h3, h4, h5, h6, hk _ h7⟩
    · exact fun hv => hv.elim
  | sliceS x lo hi =>
    simp only [vop]
    split
    · rintro ⟨l, u, h1, h2, h3, h4, h5, h7⟩
      exact ⟨l, u, h1, h2, h3, h4, h5, hk _ h7⟩
    · exact fun hv => hv.elim
  | indexAddr k x y =>
    simp only [vop]
    split
    · rintro ⟨h0, h2⟩
      exact ⟨h0, fun e he => ⟨(h2 e he).1, (h2 e he).2.1, hk _ (h2 e he).2.2⟩⟩
    · exact fun hv => ⟨hv.1, hk _ hv.2⟩
    · exact fun hv => hv.elim
  | indexS x y =>
    simp only [vop]
    split
    · rintro ⟨h0, h2⟩
      exact ⟨h0, fun e he => hk _ (h2 e he)⟩
    · exact fun hv => hv.elim
  | indexArr l k n x y =>
    simp only [vop]
    split
    · cases n with
      | some n => exact fun hv => ⟨hv.1, hk _ hv.2.1, hv.2.2⟩
      | none => exact fun hv => ⟨hv.1, fun e he => hk _ (hv.2.1 e he), hv.2.2⟩
    · exact fun hv => hv.elim
  | len b x => cases b <;> simp only [vop] <;> split <;> first | exact fun hv => hk _ hv | exact fun hv => hv.elim
  | load n x => simp only [vop]; (repeat' split) <;> intro hv <;> first | exact hv.elim | exact hk _ hv | exact ⟨hv.1, hk _ hv.2⟩
  | field n k x => simp only [vop]; (repeat' split) <;> intro hv <;> first | exact hv.elim | exact hk _ hv
  | toStr x => simp only [vop]; (repeat' split) <;> intro hv <;> first | exact hv.elim | exact hk _ hv
  | extract x i => simp only [vop]; (repeat' split) <;> intro hv <;> first | exact hv.elim | exact hk _ hv
  | indexAddrArr l k x y => simp only [vop]; (repeat' split) <;> intro hv <;> first | exact hv.elim | exact ⟨hv.1, hk _ hv.2⟩
  | move x => exact hk _
  | mkIface t x => exact hk _
  | mkFunc f a b => exact hk _
  | pick c a b => simp only [vop]; split <;> intro hv <;> first | exact hv.elim | exact hk _ hv
  | nilCheck x => simp only [vop]; split <;> intro hv <;> first | exact hv.elim | exact hk _ hv
  | minmax op x y => simp only [vop]; split <;> intro hv <;> first | exact hv.elim | exact hk _ hv
  | eqB op x y => simp only [vop]; split <;> intro hv <;> first | exact hv.elim | exact hk _ hv
  | eqN op k x y => simp only [vop]; split <;> intro hv <;> first | exact hv.elim | exact hk _ hv
  | un op x => simp only [vop]; split <;> intro hv <;> first | exact hv.elim | exact hk _ hv
  | conv k x => simp only [vop]; split <;> intro hv <;> first | exact hv.elim | exact hk _ hv
  | convS x => simp only [vop]; split <;> intro hv <;> first | exact hv.elim | exact hk _ hv
  | fieldAddr k x => simp only [vop]; split <;> intro hv <;> first | exact hv.elim | exact hk _ hv
  | build zero parts => simp only [vop]; split <;> intro hv <;> first | exact hv.elim | exact hk _ hv
  | _ => exact fun hv => hv.elim

theorem adop_val {h : List AObj} {ev : Operand → AV} {K : AV → Prop} {ao : AOp} (hv : adop E h ev ao K) : ∃ v, K v ∧ adop E h ev ao (fun x => x = v) := by
  unfold adop at hv ⊢
  revert hv
  split
  · exact fun hv => ⟨_, hv.2, hv.1, rfl⟩
  · split
    · exact fun hv => ⟨_, hv, rfl⟩
    · exact fun hv => hv.elim
  · split
    · rintro ⟨v, h1, h2⟩; exact ⟨_, h2, v, h1, rfl⟩
    · exact fun hv => hv.elim
  · exact vop_val

theorem adop_aop {d : Option Nat} {ao : AOp} {K : AV → Prop} (hnt : ∀ x, ao ≠ .toBytes x) (hv : adop E σ.heap (σ.ev E) ao K) : aop E σ d (fun σ' => ∃ v, K v ∧ σ' = σ.putO d v) Q ao := by
  unfold adop at hv
  revert hv
  split
  · rintro ⟨h1, h2⟩; exact ⟨h1, _, h2, rfl⟩
  · exact absurd rfl (hnt _)
  · rename_i f args
    split
    · rename_i fid first caps heq
      rintro ⟨v, h1, h2⟩
      simp only [aop, fnOf, heq]
      refine Ev.mono h1 fun r h' hrh => ?_
      obtain ⟨hr, hh⟩ := hrh
      subst hr hh
      exact ⟨_, h2, rfl⟩
    · exact fun hv => hv.elim
  · rename_i h1 h2 h3
    intro hv
    have hv2 := vop_mono (K' := fun x => ∃ v, K v ∧ σ.putO d x = σ.putO d v) (fun x hx => ⟨x, hx, rfl⟩) hv
    cases ao with
    | take t => exact hv.elim
    | box x => exact hv.elim
    | alloc x => exact hv.elim
    | store n x y => exact hv.elim
    | append k b z s x => exact hv.elim
    | toBytes x => exact absurd rfl (hnt x)
    | buildSlice obj k zero len parts => exact hv.elim
    | call f args => exact absurd rfl (h3 f args)
    | panic x => exact hv.elim
    | conv8 x => exact hv.elim
    | _ => exact hv2

theorem cop_toBytes {P : Program} {op : Op} {x : Operand} (hc : cop P op = some (.toBytes x)) :
    ∃ src dst e, op = .convert src dst x ∧ P.underlying src = some .string ∧ P.underlying dst = some (.slice e) ∧ P.underlying e = some (.int .u8) := by
  cases op with
  | convert src dst y =>
    simp only [cop] at hc
    repeat' split at hc
    all_goals first
      | (cases hc; done)
      | (rename_i h1 h2 _ h3; cases hc; exact ⟨_, _, _, rfl, h1, h2, h3⟩)
  | call c =>
    obtain ⟨callee, args, argTypes⟩ := c
    cases callee with
    | value f => simp only [cop] at hc; cases hc
    | invoke r m => simp [cop] at hc
    | builtin b =>
      cases b <;> first
        | (simp [cop] at hc; done)
        | (simp only [cop] at hc; repeat' split at hc
           all_goals (cases hc; done))
  | slice t x lo hi mx =>
    cases mx with
    | some _ => simp [cop] at hc
    | none => simp only [cop] at hc; repeat' split at hc
              all_goals (cases hc; done)
  | _ =>
    first
      | (simp [cop] at hc; done)
      | (simp only [cop] at hc; cases hc; done)
      | (simp only [cop] at hc; repeat' split at hc
         all_goals (cases hc; done))

theorem adop_sound {ao : AOp} {K : AV → Prop} (hc : cop E.P o.op = some ao) (hd : DstOk B.nt o.dst) (hR : RA E B σ a w g) (hv : adop E σ.heap (σ.ev E) ao K) :
    o.wp E.P a w (KC E B fun σ' => ∃ v, K v ∧ σ' = σ.putO o.dst v) (QC E B Q) := by
  by_cases hnt : ∃ x, ao = .toBytes x
  · obtain ⟨x, rfl⟩ := hnt
    obtain ⟨src, dst, e, ho, h1, h2, h3⟩ := cop_toBytes hc
    simp only [adop] at hv
    split at hv
    · rename_i s hx
      exact op_toBytesU ho h1 h2 h3 hd hR hx ⟨_, hv, rfl⟩
    · exact hv.elim
  · exact op_sound (tk := false) (by simpa [copT] using hc) hd hR (adop_aop (fun x hx => hnt ⟨x, hx⟩) hv)

theorem placed_ops {place : Nat → Option (Nat × Nat)} : ∀ {parts : List (Nat × Operand)} {ps : List (Nat × Nat × Operand)}, placed place parts = some ps → ps.map (·.2.2) = parts.map (·.2)
  | [], ps, h => by simp [placed] at h; subst h; rfl
  | (i, x) :: parts, ps, h => by
    simp only [placed] at h
    split at h
    · rename_i off n l h1 h2
      cases h
      simp [placed_ops h2]
    · cases h

theorem cop_ops {op : Op} {ao : AOp} (hc : cop P op = some ao) : ∀ x, x ∈ ao.ops → x ∈ op.operands.toList := by
  cases op with
  | binOp op t x y ty =>
    simp only [cop] at hc
    split at hc
    · cases op <;> simp at hc <;> subst hc <;> simp [AOp.ops, Op.operands]
    · split at hc
      · cases hc; simp [AOp.ops, Op.operands]
      · split at hc
        · cases op <;> simp at hc <;> subst hc <;> simp [AOp.ops, Op.operands]
        · cases hc
  | convert src dst x =>
    simp only [cop] at hc
    split at hc
    · cases hc; simp [AOp.ops, Op.operands]
    · cases hc; simp [AOp.ops, Op.operands]
    · split at hc <;> cases hc; simp [AOp.ops, Op.operands]
    · split at hc <;> cases hc; simp [AOp.ops, Op.operands]
    · split at hc
      · split at hc <;> cases hc; simp [AOp.ops]
      · cases hc
    · cases hc
  | slice t x lo hi mx =>
    cases mx with
    | some _ => simp [cop] at hc
    | none =>
      simp only [cop] at hc
      split at hc
      · cases hc; cases lo <;> cases hi <;> simp [AOp.ops, Op.operands]
      · split at hc <;> cases hc; cases lo <;> cases hi <;> simp [AOp.ops, Op.operands]
      · cases hc
  | fieldAddr s x f =>
    simp only [cop] at hc
    split at hc
    · split at hc
      · split at hc
        · split at hc <;> cases hc; simp [AOp.ops, Op.operands]
        · cases hc
      · cases hc
    · cases hc
  | field s x f =>
    simp only [cop] at hc
    split at hc
    · split at hc
      · split at hc <;> cases hc; simp [AOp.ops, Op.operands]
      · cases hc
    · cases hc
  | indexAddr t x i =>
    simp only [cop] at hc
    split at hc
    · split at hc <;> cases hc; simp [AOp.ops, Op.operands]
    · split at hc <;> cases hc; simp [AOp.ops, Op.operands]
    · cases hc
  | index t x i =>
    simp only [cop] at hc
    split at hc
    · cases hc; simp [AOp.ops, Op.operands]
    · split at hc <;> cases hc; simp [AOp.ops, Op.operands]
    · cases hc
  | load t x => simp only [cop] at hc; split at hc <;> cases hc; simp [AOp.ops, Op.operands]
  | store t x y => simp only [cop] at hc; split at hc <;> cases hc; simp [AOp.ops]
  | makeInterface t x =>
    simp only [cop] at hc
    split at hc <;> cases hc; simp [AOp.ops, Op.operands]
  | build t parts =>
    simp only [cop] at hc
    split at hc
    · split at hc
      · split at hc
        · rename_i hp; cases hc; simp only [AOp.ops, placed_ops hp, Op.operands]; intro x hx; simpa using hx
        · cases hc
      · cases hc
    · split at hc
      · split at hc
        · rename_i hp; cases hc; simp only [AOp.ops, placed_ops hp, Op.operands]; intro x hx; simpa using hx
        · cases hc
      · cases hc
    · cases hc
  | buildSlice t len parts =>
    simp only [cop] at hc
    split at hc
    · split at hc
      · split at hc
        · cases hc; simp only [AOp.ops, Op.operands]; intro x hx; simpa using hx
        · cases hc
      · cases hc
    · cases hc
  | makeSlice t l c =>
    simp only [cop] at hc
    split at hc
    · split at hc
      · split at hc <;> cases hc; simp [AOp.ops]
      · cases hc
    · cases hc
  | alloc t =>
    simp only [cop] at hc
    split at hc
    · split at hc <;> cases hc; simp [AOp.ops]
    · cases hc
  | call c =>
    obtain ⟨callee, args, argTypes⟩ := c
    cases callee with
    | value f =>
      simp only [cop] at hc; cases hc
      simp only [AOp.ops, Op.operands, Call.operands]
      intro x hx
      simpa using hx
    | invoke r m => simp [cop] at hc
    | builtin b =>
      cases b <;> try (simp [cop] at hc; done)
      case len =>
        simp only [cop] at hc
        split at hc
        · rename_i x t hx ht
          have hmem : x ∈ args := Array.mem_of_getElem? hx
          split at hc <;> cases hc <;> (intro y hy; simp [AOp.ops] at hy; subst hy; simpa [Op.operands, Call.operands] using hmem)
        · cases hc
      case max => simp only [cop] at hc; split at hc <;> cases hc; rename_i x1 x2 ha; intro y hy; have hm : y ∈ args.toList := by { rw [ha]; simpa [AOp.ops] using hy }; simpa [Op.operands, Call.operands] using hm
      case min => simp only [cop] at hc; split at hc <;> cases hc; rename_i x1 x2 ha; intro y hy; have hm : y ∈ args.toList := by { rw [ha]; simpa [AOp.ops] using hy }; simpa [Op.operands, Call.operands] using hm
      case append =>
        simp only [cop] at hc
        split at hc
        · split at hc
          · split at hc
            · split at hc <;> cases hc; simp [AOp.ops]
            · split at hc <;> cases hc; simp [AOp.ops]
            · cases hc
          · cases hc
        · cases hc
  | move x => simp only [cop] at hc; cases hc; simp [AOp.ops, Op.operands]
  | assign x => simp only [cop] at hc; cases hc; simp [AOp.ops, Op.operands]
  | pick c a b => simp only [cop] at hc; cases hc; simp [AOp.ops, Op.operands]
  | nilCheck x => simp only [cop] at hc; cases hc; simp [AOp.ops, Op.operands]
  | unOp op t x => simp only [cop] at hc; cases hc; simp [AOp.ops, Op.operands]
  | extract x i => simp only [cop] at hc; cases hc; simp [AOp.ops, Op.operands]
  | makeFunc f first caps => simp only [cop] at hc; cases hc; intro x hx; simpa [AOp.ops, Op.operands] using hx
  | box t x => simp only [cop] at hc; cases hc; simp [AOp.ops]
  | panic x => simp only [cop] at hc; cases hc; simp [AOp.ops]
  | _ => simp [cop] at hc

end Go.Abs
