/- Regions whose order is open: one walk in the text's order serves every order. -/
import Derived.Test.YthhhpaifelgcpaaDoorAbsM
set_option linter.all false
namespace Go.Abs
open Go Go.RowKit

variable {E : Env} {B : Base} {σ : ASt} {a : Act} {w : World} {g : Gh} {K : ASt → Prop} {Q : AEx → ASt → Prop} {o : Oper} {P : Program}

theorem adop_congr {h : List AObj} {ev ev' : Operand → AV} {K : AV → Prop} (ao : AOp) (hh : ∀ x, x ∈ ao.ops → ev x = ev' x) : adop E h ev ao K = adop E h ev' ao K := by
  unfold adop
  cases ao with
  | buildSlice obj k zero len parts =>
    cases obj with
    | true => exact vop_congr _ hh
    | false =>
      have h1 : ∀ p, p ∈ parts → ev p.2 = ev' p.2 := fun p hp => hh _ (by simp only [AOp.ops, List.mem_map]; exact ⟨p, hp, rfl⟩)
      simp only
      rw [List.map_congr_left h1]
      congr 1
      apply propext
      constructor
      · rintro ⟨a1, a2, a3, a4, a5⟩; exact ⟨a1, a2, a3, a4, fun p hp => by rw [← h1 p hp]; exact a5 p hp⟩
      · rintro ⟨a1, a2, a3, a4, a5⟩; exact ⟨a1, a2, a3, a4, fun p hp => by rw [h1 p hp]; exact a5 p hp⟩
  | call f args =>
    have h1 : ∀ p, p ∈ args → ev p.1 = ev' p.1 := fun p hp => hh _ (by simp only [AOp.ops, List.mem_cons, List.mem_map]; exact .inr ⟨p, hp, rfl⟩)
    simp only
    rw [hh f (by simp [AOp.ops]), List.map_congr_left h1]
  | toBytes x => simp only; rw [hh x (by simp [AOp.ops])]
  | _ => exact vop_congr _ hh

theorem vop_mono {h : List AObj} {ev : Operand → AV} {K K' : AV → Prop} (hk : ∀ v, K v → K' v) {ao : AOp} (hv : vop h ev ao K) : vop h ev ao K' := by
  revert hv
  cases ao with
  | bin op x y =>
    simp only [vop]
    split
    · exact binW_mono fun r hr => hk _ hr
    · exact fun hv => hv.elim
  | slice k x lo hi =>
    simp only [vop]
    split
    · rintro ⟨l, u, h1, h2, h3, h4, h5, h6, h7⟩
      exact ⟨l, u, h1, h2, h3, h4, h5, h6, hk _ h7⟩
    · exact fun hv => hv.elim
  | sliceS x lo hi =>
    simp only [vop]
    split
    · rintro ⟨l, u, h1, h2, h3, h4, h5, h7⟩
      exact ⟨l, u, h1, h2, h3, h4, h5, hk _ h7⟩
    · exact fun hv => hv.elim
  | indexAddr k x y =>
    simp only [vop]
    split
    · rintro ⟨h0, h2⟩
      exact ⟨h0, fun e he => ⟨(h2 e he).1, (h2 e he).2.1, hk _ (h2 e he).2.2⟩⟩
    · exact fun hv => ⟨hv.1, hk _ hv.2⟩
    · exact fun hv => hv.elim
  | indexS x y =>
    simp only [vop]
    split
    · rintro ⟨h0, h2⟩
      exact ⟨h0, fun e he => hk _ (h2 e he)⟩
    · exact fun hv => hv.elim
  | indexArr l k n x y =>
    simp only [vop]
    split
    · cases n with
      | some n => exact fun hv => ⟨hv.1, hk _ hv.2.1, hv.2.2⟩
      | none => exact fun hv => ⟨hv.1, fun e he => hk _ (hv.2.1 e he), hv.2.2⟩
    · exact fun hv => hv.elim
  | len b x => cases b <;> simp only [vop] <;> split <;> first | exact fun hv => hk _ hv | exact fun hv => hv.elim
  | load n x => simp only [vop]; (repeat' split) <;> intro hv <;> first | exact hv.elim | exact hk _ hv | exact ⟨hv.1, hk _ hv.2⟩
  | field n k x => simp only [vop]; (repeat' split) <;> intro hv <;> first | exact hv.elim | exact hk _ hv
  | toStr x => simp only [vop]; (repeat' split) <;> intro hv <;> first | exact hv.elim | exact hk _ hv
  | extract x i => simp only [vop]; (repeat' split) <;> intro hv <;> first | exact hv.elim | exact hk _ hv
  | indexAddrArr l k x y => simp only [vop]; (repeat' split) <;> intro hv <;> first | exact hv.elim | exact ⟨hv.1, hk _ hv.2⟩
  | move x => exact hk _
  | mkIface t x => exact hk _
  | mkFunc f a b => exact hk _
  | pick c a b => simp only [vop]; split <;> intro hv <;> first | exact hv.elim | exact hk _ hv
  | nilCheck x => simp only [vop]; split <;> intro hv <;> first | exact hv.elim | exact hk _ hv
  | minmax op x y => simp only [vop]; split <;> intro hv <;> first | exact hv.elim | exact hk _ hv
  | eqB op x y => simp only [vop]; split <;> intro hv <;> first | exact hv.elim | exact hk _ hv
  | eqN op k x y => simp only [vop]; split <;> intro hv <;> first | exact hv.elim | exact hk _ hv
  | eqS op k x y => simp only [vop]; (repeat' split) <;> intro hv <;> first | exact hv.elim | exact hk _ hv
  | un op x => simp only [vop]; split <;> intro hv <;> first | exact hv.elim | exact hk _ hv
  | conv k x => simp only [vop]; split <;> intro hv <;> first | exact hv.elim | exact hk _ hv
  | convS x => simp only [vop]; split <;> intro hv <;> first | exact hv.elim | exact hk _ hv
  | fieldAddr k x => simp only [vop]; split <;> intro hv <;> first | exact hv.elim | exact hk _ hv
  | build zero parts => simp only [vop]; split <;> intro hv <;> first | exact hv.elim | exact hk _ hv
  | _ => exact fun hv => hv.elim

theorem adop_val {h : List AObj} {ev : Operand → AV} {K : AV → Prop} {ao : AOp} (hv : adop E h ev ao K) : ∃ v, K v ∧ adop E h ev ao (fun x => x = v) := by
  unfold adop at hv ⊢
  revert hv
  split
  · exact fun hv => ⟨_, hv.2, hv.1, rfl⟩
  · split
    · exact fun hv => ⟨_, hv, rfl⟩
    · exact fun hv => hv.elim
  · split
    · rintro ⟨v, h1, h2⟩; exact ⟨_, h2, v, h1, rfl⟩
    · exact fun hv => hv.elim
  · exact vop_val

theorem adop_aop {d : Option Nat} {ao : AOp} {K : AV → Prop} (hnt : ∀ x, ao ≠ .toBytes x) (hv : adop E σ.heap (σ.ev E) ao K) : aop E σ d (fun σ' => ∃ v, K v ∧ σ' = σ.putO d v) Q ao := by
  unfold adop at hv
  revert hv
  split
  · rintro ⟨h1, h2⟩; exact ⟨h1, _, h2, rfl⟩
  · exact absurd rfl (hnt _)
  · rename_i f args
    split
    · rename_i fid first caps heq
      rintro ⟨v, h1, h2⟩
      simp only [aop, fnOf, heq]
      refine Ev.mono h1 fun r h' hrh => ?_
      obtain ⟨hr, hh⟩ := hrh
      subst hr hh
      exact ⟨_, h2, rfl⟩
    · exact fun hv => hv.elim
  · rename_i h1 h2 h3
    intro hv
    have hv2 := vop_mono (K' := fun x => ∃ v, K v ∧ σ.putO d x = σ.putO d v) (fun x hx => ⟨x, hx, rfl⟩) hv
    cases ao with
    | take t => exact hv.elim
    | box x => exact hv.elim
    | alloc x => exact hv.elim
    | store n x y => exact hv.elim
    | append k b z s x => exact hv.elim
    | toBytes x => exact absurd rfl (hnt x)
    | buildSlice obj k zero len parts => exact hv.elim
    | call f args => exact absurd rfl (h3 f args)
    | panic x => exact hv.elim
    | conv8 x => exact hv.elim
    | boxB e te x => exact hv.elim
    | _ => exact hv2

theorem cop_toBytes {P : Program} {op : Op} {x : Operand} (hc : cop P op = some (.toBytes x)) :
    ∃ src dst e, op = .convert src dst x ∧ P.underlying src = some .string ∧ P.underlying dst = some (.slice e) ∧ P.underlying e = some (.int .u8) := by
  cases op with
  | convert src dst y =>
    simp only [cop] at hc
    repeat' split at hc
    all_goals first
      | (cases hc; done)
      | (rename_i h1 h2 _ h3; cases hc; exact ⟨_, _, _, rfl, h1, h2, h3⟩)
  | call c =>
    obtain ⟨callee, args, argTypes⟩ := c
    cases callee with
    | value f => simp only [cop] at hc; cases hc
    | invoke r m => simp [cop] at hc
    | builtin b =>
      cases b <;> first
        | (simp [cop] at hc; done)
        | (simp only [cop] at hc; repeat' split at hc
           all_goals (cases hc; done))
  | slice t x lo hi mx =>
    cases mx with
    | some _ => simp [cop] at hc
    | none => simp only [cop] at hc; repeat' split at hc
              all_goals (cases hc; done)
  | _ =>
    first
      | (simp [cop] at hc; done)
      | (simp only [cop] at hc; cases hc; done)
      | (simp only [cop] at hc; repeat' split at hc
         all_goals (cases hc; done))

theorem adop_sound {ao : AOp} {K : AV → Prop} (hc : cop E.P o.op = some ao) (hd : DstOk B.nt o.dst) (hR : RA E B σ a w g) (hv : adop E σ.heap (σ.ev E) ao K) :
    o.wp E.P a w (KC E B fun σ' => ∃ v, K v ∧ σ' = σ.putO o.dst v) (QC E B Q) := by
  by_cases hnt : ∃ x, ao = .toBytes x
  · obtain ⟨x, rfl⟩ := hnt
    obtain ⟨src, dst, e, ho, h1, h2, h3⟩ := cop_toBytes hc
    simp only [adop] at hv
    split at hv
    · rename_i s hx
      exact op_toBytesU ho h1 h2 h3 hd hR hx ⟨_, hv, rfl⟩
    · exact hv.elim
  · exact op_sound (tk := false) (by simpa [copT] using hc) hd hR (adop_aop (fun x hx => hnt ⟨x, hx⟩) hv)

theorem placed_ops {place : Nat → Option (Nat × Nat)} : ∀ {parts : List (Nat × Operand)} {ps : List (Nat × Nat × Operand)}, placed place parts = some ps → ps.map (·.2.2) = parts.map (·.2)
  | [], ps, h => by simp [placed] at h; subst h; rfl
  | (i, x) :: parts, ps, h => by
    simp only [placed] at h
    split at h
    · rename_i off n l h1 h2
      cases h
      simp [placed_ops h2]
    · cases h

theorem cop_ops {op : Op} {ao : AOp} (hc : cop P op = some ao) : ∀ x, x ∈ ao.ops → x ∈ op.operands.toList := by
  cases op with
  | binOp op t x y ty =>
    simp only [cop] at hc
    split at hc
    · cases op <;> simp at hc <;> subst hc <;> simp [AOp.ops, Op.operands]
    · split at hc
      · cases hc; simp [AOp.ops, Op.operands]
      · split at hc
        · cases op <;> simp at hc <;> subst hc <;> simp [AOp.ops, Op.operands]
        · split at hc
          · cases op <;> simp at hc <;> subst hc <;> simp [AOp.ops, Op.operands]
          · cases hc
  | convert src dst x =>
    simp only [cop] at hc
    split at hc
    · cases hc; simp [AOp.ops, Op.operands]
    · cases hc; simp [AOp.ops, Op.operands]
    · split at hc <;> cases hc; simp [AOp.ops, Op.operands]
    · split at hc <;> cases hc; simp [AOp.ops, Op.operands]
    · split at hc
      · split at hc <;> cases hc; simp [AOp.ops]
      · cases hc
    · cases hc
  | slice t x lo hi mx =>
    cases mx with
    | some _ => simp [cop] at hc
    | none =>
      simp only [cop] at hc
      split at hc
      · cases hc; cases lo <;> cases hi <;> simp [AOp.ops, Op.operands]
      · split at hc <;> cases hc; cases lo <;> cases hi <;> simp [AOp.ops, Op.operands]
      · cases hc
  | fieldAddr s x f =>
    simp only [cop] at hc
    split at hc
    · split at hc
      · split at hc
        · split at hc <;> cases hc; simp [AOp.ops, Op.operands]
        · cases hc
      · cases hc
    · cases hc
  | field s x f =>
    simp only [cop] at hc
    split at hc
    · split at hc
      · split at hc <;> cases hc; simp [AOp.ops, Op.operands]
      · cases hc
    · cases hc
  | indexAddr t x i =>
    simp only [cop] at hc
    split at hc
    · split at hc <;> cases hc; simp [AOp.ops, Op.operands]
    · split at hc <;> cases hc; simp [AOp.ops, Op.operands]
    · cases hc
  | index t x i =>
    simp only [cop] at hc
    split at hc
    · cases hc; simp [AOp.ops, Op.operands]
    · split at hc <;> cases hc; simp [AOp.ops, Op.operands]
    · cases hc
  | load t x => simp only [cop] at hc; split at hc <;> cases hc; simp [AOp.ops, Op.operands]
  | store t x y => simp only [cop] at hc; split at hc <;> cases hc; simp [AOp.ops]
  | makeInterface t x =>
    simp only [cop] at hc
    split at hc <;> cases hc; simp [AOp.ops, Op.operands]
  | build t parts =>
    simp only [cop] at hc
    split at hc
    · split at hc
      · split at hc
        · rename_i hp; cases hc; simp only [AOp.ops, placed_ops hp, Op.operands]; intro x hx; simpa using hx
        · cases hc
      · cases hc
    · split at hc
      · split at hc
        · rename_i hp; cases hc; simp only [AOp.ops, placed_ops hp, Op.operands]; intro x hx; simpa using hx
        · cases hc
      · cases hc
    · cases hc
  | buildSlice t len parts =>
    simp only [cop] at hc
    split at hc
    · split at hc
      · split at hc
        · cases hc; simp only [AOp.ops, Op.operands]; intro x hx; simpa using hx
        · cases hc
      · cases hc
    · cases hc
  | makeSlice t l c =>
    simp only [cop] at hc
    split at hc
    · split at hc
      · split at hc <;> cases hc; simp [AOp.ops]
      · cases hc
    · cases hc
  | alloc t =>
    simp only [cop] at hc
    split at hc
    · split at hc <;> cases hc; simp [AOp.ops]
    · cases hc
  | call c =>
    obtain ⟨callee, args, argTypes⟩ := c
    cases callee with
    | value f =>
      simp only [cop] at hc; cases hc
      simp only [AOp.ops, Op.operands, Call.operands]
      intro x hx
      simpa using hx
    | invoke r m => simp [cop] at hc
    | builtin b =>
      cases b <;> try (simp [cop] at hc; done)
      case len =>
        simp only [cop] at hc
        split at hc
        · rename_i x t hx ht
          have hmem : x ∈ args := Array.mem_of_getElem? hx
          split at hc <;> cases hc <;> (intro y hy; simp [AOp.ops] at hy; subst hy; simpa [Op.operands, Call.operands] using hmem)
        · cases hc
      case max => simp only [cop] at hc; split at hc <;> cases hc; rename_i x1 x2 ha; intro y hy; have hm : y ∈ args.toList := by { rw [ha]; simpa [AOp.ops] using hy }; simpa [Op.operands, Call.operands] using hm
      case min => simp only [cop] at hc; split at hc <;> cases hc; rename_i x1 x2 ha; intro y hy; have hm : y ∈ args.toList := by { rw [ha]; simpa [AOp.ops] using hy }; simpa [Op.operands, Call.operands] using hm
      case append =>
        simp only [cop] at hc
        split at hc
        · split at hc
          · split at hc
            · split at hc <;> cases hc; simp [AOp.ops]
            · split at hc <;> cases hc; simp [AOp.ops]
            · cases hc
          · cases hc
        · cases hc
  | move x => simp only [cop] at hc; cases hc; simp [AOp.ops, Op.operands]
  | assign x => simp only [cop] at hc; cases hc; simp [AOp.ops, Op.operands]
  | pick c a b => simp only [cop] at hc; cases hc; simp [AOp.ops, Op.operands]
  | nilCheck x => simp only [cop] at hc; cases hc; simp [AOp.ops, Op.operands]
  | unOp op t x => simp only [cop] at hc; cases hc; simp [AOp.ops, Op.operands]
  | extract x i => simp only [cop] at hc; cases hc; simp [AOp.ops, Op.operands]
  | makeFunc f first caps => simp only [cop] at hc; cases hc; intro x hx; simpa [AOp.ops, Op.operands] using hx
  | box t x => simp only [cop] at hc; cases hc; simp [AOp.ops]
  | panic x => simp only [cop] at hc; cases hc; simp [AOp.ops]
  | _ => simp [cop] at hc

end Go.Abs

namespace Go.Abs
open Go Go.RowKit

variable {E : Env} {B : Base} {K : ASt → Prop} {Q : AEx → ASt → Prop}

def AStep (E : Env) (σ : ASt) (o : AOper) (v : AV) : Prop :=
  match o.guard with
  | none => adop E σ.heap (σ.ev E) o.op (fun x => x = v)
  | some (t, want) => match guardIs (look σ.tmps t) with
    | .yes b => (b = want → adop E σ.heap (σ.ev E) o.op (fun x => x = v)) ∧ (b = (!want) → v = .lit undef)
    | .never => v = .lit undef
    | .unknown => False

def pre (σ : ASt) : List AOper → List AV → Nat → ASt
  | _, _, 0 => σ
  | [], _, _ => σ
  | _, [], _ => σ
  | o :: as, v :: vs, i + 1 => pre (σ.putO o.dst v) as vs i

theorem adraw_vals : ∀ (as : List AOper) (σ : ASt), adraw E K as σ → ∃ vals, vals.length = as.length ∧
    (∀ i o v, as[i]? = some o → vals[i]? = some v → AStep E (pre σ as vals i) o v) ∧ K (pre σ as vals as.length)
  | [], σ, h => ⟨[], rfl, fun i o v ho => by simp at ho, h⟩
  | o :: as, σ, h => by
    have main : ∀ v, AStep E σ o v → adraw E K as (σ.putO o.dst v) → ∃ vals, vals.length = (o :: as).length ∧
        (∀ i o' v, (o :: as)[i]? = some o' → vals[i]? = some v → AStep E (pre σ (o :: as) vals i) o' v) ∧ K (pre σ (o :: as) vals (o :: as).length) := by
      intro v hs hr
      obtain ⟨vals, h1, h2, h3⟩ := adraw_vals as _ hr
      refine ⟨v :: vals, by simp [h1], fun i o' v' ho hv => ?_, h3⟩
      cases i with
      | zero => simp at ho hv; subst ho hv; exact hs
      | succ i => simp at ho hv; exact h2 i o' v' ho hv
    simp only [adraw] at h
    unfold AStep at main
    cases hg : o.guard with
    | none =>
      simp only [hg] at h main
      obtain ⟨v, h1, h2⟩ := adop_val h
      exact main v h2 h1
    | some tw =>
      obtain ⟨t, want⟩ := tw
      simp only [hg] at h main
      cases hgi : guardIs (look σ.tmps t) with
      | yes b =>
        simp only [hgi] at h main
        by_cases hb : b = want
        · obtain ⟨v, h1, h2⟩ := adop_val (h.1 (by simpa using hb))
          exact main v ⟨fun _ => h2, fun hb' => by subst hb; cases b <;> cases hb'⟩ h1
        · exact main _ ⟨fun hb' => absurd hb' hb, fun _ => rfl⟩ (h.2 (by simpa using hb))
      | never => simp only [hgi] at h main; exact main _ rfl h
      | unknown => simp only [hgi] at h

/-- The last of the listed operations, below n, that writes t. -/
def lastW (as : List AOper) (vals : List AV) (L : Nat → Bool) (t : Nat) : Nat → Option AV
  | 0 => none
  | n + 1 => if L n = true ∧ (as[n]?).bind (·.dst) = some t then vals[n]? else lastW as vals L t n

theorem lastW_congr {as : List AOper} {vals : List AV} {L L' : Nat → Bool} {t : Nat} : ∀ (n : Nat), (∀ j, j < n → (as[j]?).bind (·.dst) = some t → L j = L' j) → lastW as vals L t n = lastW as vals L' t n
  | 0, _ => rfl
  | n + 1, h => by
    simp only [lastW]
    rw [lastW_congr n fun j hj => h j (by omega)]
    by_cases hd : (as[n]?).bind (·.dst) = some t
    · rw [h n (by omega) hd]
    · rw [if_neg (fun hh => hd hh.2), if_neg (fun hh => hd hh.2)]

theorem lastW_none {as : List AOper} {vals : List AV} {L : Nat → Bool} {t : Nat} : ∀ (n : Nat), (∀ j, j < n → L j = false) → lastW as vals L t n = none
  | 0, _ => rfl
  | n + 1, h => by
    simp only [lastW]
    rw [if_neg (by simp [h n (by omega)]), lastW_none n fun j hj => h j (by omega)]

theorem lastW_above {as : List AOper} {vals : List AV} {L : Nat → Bool} {t m : Nat} : ∀ (n : Nat), m ≤ n → (∀ j, m ≤ j → j < n → (as[j]?).bind (·.dst) = some t → L j = false) → lastW as vals L t n = lastW as vals L t m
  | 0, h, _ => by have : m = 0 := by omega
                  subst this; rfl
  | n + 1, h, hh => by
    by_cases hm : m = n + 1
    · subst hm; rfl
    · simp only [lastW]
      rw [if_neg (fun hx => by have := hh n (by omega) (by omega) hx.2; rw [this] at hx; cases hx.1)]
      exact lastW_above n (by omega) fun j h1 h2 => hh j h1 (by omega)

theorem look_putO {σ : ASt} {d : Option Nat} {v : AV} {t : Nat} : look (σ.putO d v).tmps t = if d = some t then v else look σ.tmps t := by
  cases d with
  | none => simp [ASt.putO]
  | some i =>
    simp only [ASt.putO, ASt.put, look]
    by_cases h : i = t
    · subst h; simp
    · rw [if_neg h, if_neg (by simpa using h)]

theorem heap_putO {σ : ASt} {d : Option Nat} {v : AV} : (σ.putO d v).heap = σ.heap := by cases d <;> rfl

/-- What the state behind the first i operations holds. -/
theorem pre_look : ∀ (as : List AOper) (vals : List AV) (σ : ASt) (i t : Nat), vals.length = as.length → i ≤ as.length →
    (pre σ as vals i).heap = σ.heap ∧ look (pre σ as vals i).tmps t = (lastW as vals (fun _ => true) t i).getD (look σ.tmps t)
  | as, vals, σ, 0, t, _, _ => by cases as <;> cases vals <;> simp [pre, lastW]
  | [], vals, σ, i + 1, t, _, h => by simp at h
  | o :: as, [], σ, i + 1, t, h, _ => by simp at h
  | o :: as, v :: vals, σ, i + 1, t, hl, hi => by
    simp only [List.length_cons] at hl hi
    obtain ⟨h1, h2⟩ := pre_look as vals (σ.putO o.dst v) i t (by omega) (by omega)
    simp only [pre]
    refine ⟨by rw [h1, heap_putO], ?_⟩
    rw [h2, look_putO]
    clear h1 h2
    induction i with
    | zero =>
      simp only [lastW, List.getElem?_cons_zero, Option.bind_some, true_and, Option.getD_none]
      by_cases hd : o.dst = some t
      · rw [if_pos hd, if_pos hd]; rfl
      · rw [if_neg hd, if_neg hd]; rfl
    | succ i ih =>
      have ih := ih (by omega)
      simp only [lastW, true_and, List.getElem?_cons_succ] at ih ⊢
      by_cases hd : (as[i]?).bind (·.dst) = some t
      · rw [if_pos hd, if_pos hd]
        have hv : i < vals.length := by
          cases ha : as[i]? with
          | none => rw [ha] at hd; cases hd
          | some _ => have := (List.getElem?_eq_some_iff.1 ha).1; omega
        rw [List.getElem?_eq_getElem hv]; rfl
      · rw [if_neg hd, if_neg hd]; exact ih

theorem compOps_get {P : Program} {nt : Nat} {hs : Hints} {id : Nat} {ops : Array Oper} : ∀ (l : List Nat) (as : List AOper), compOps P nt hs id ops l = some as → as.length = l.length ∧
    ∀ (j i : Nat) (o : Oper), l[j]? = some i → ops[i]? = some o → ∃ ao gd, as[j]? = some ({ dst := o.dst, op := ao, guard := gd } : AOper) ∧ copT P (hs.contains (id, i)) o.op = some ao ∧ guardOf ops o.guard = some gd ∧ dstOk nt o.dst = true
  | [], as, h => by simp [compOps] at h; subst h; exact ⟨rfl, fun j i o hj => by simp at hj⟩
  | i :: l, as, h => by
    unfold compOps at h
    split at h
    · cases h
    · rename_i o ho
      split at h
      · rename_i ao gd rest hao hgd hrest
        split at h
        · rename_i hd
          cases h
          obtain ⟨h1, h2⟩ := compOps_get l rest hrest
          refine ⟨by simp [h1], fun j i' o' hj ho' => ?_⟩
          cases j with
          | zero => simp at hj; subst hj; rw [ho] at ho'; cases ho'; exact ⟨ao, gd, by simp, hao, hgd, hd⟩
          | succ j => simp at hj; simpa using h2 j i' o' hj ho'
        · cases h
      · cases h


theorem orderOk_spec {ops : Array Oper} (h : orderOk ops = true) : Region.noSelect ops = true ∧ ∀ j oj, ops[j]? = some oj →
    (∀ e ∈ oj.after, Region.binds .any e = true → e.on < j) ∧ ∀ i oi, i < j → ops[i]? = some oi → (∃ e ∈ oj.after, Region.binds .any e = true ∧ e.on = i) ∨ oi.apart ops oj = true := by
  simp only [orderOk, Bool.and_eq_true, List.all_eq_true, List.mem_range] at h
  refine ⟨h.1, fun j oj hj => ?_⟩
  have h1 := h.2 j (Array.getElem?_eq_some_iff.1 hj).1
  simp only [hj, Bool.and_eq_true, List.all_eq_true, List.mem_range] at h1
  refine ⟨fun e he hb => ?_, fun i oi hi hoi => ?_⟩
  · have := Array.all_eq_true_iff_forall_mem.1 h1.1 e he
    simpa [hb] using this
  · have := h1.2 i hi
    simp only [hoi, Bool.or_eq_true] at this
    refine this.imp (fun ha => ?_) id
    obtain ⟨e, he, hb⟩ := Array.any_eq_true'.1 ha
    simp only [Bool.and_eq_true, beq_iff_eq] at hb
    exact ⟨e, he, hb⟩

theorem Oper.wp_post {P : Program} {o : Oper} {a : Act} {w : World} {K : Act → World → Prop} {Q Q' : Exit → Act → World → Prop} (hq : ∀ c a w, Q c a w → Q' c a w) (hh : o.wp P a w K Q) : o.wp P a w K Q' := by
  unfold Oper.wp at *
  generalize (execOp a.eval o).run P w = r at *
  cases r with
  | ok n w' =>
    cases n <;> simp only [Oper.upon] at hh ⊢ <;>
      first
        | exact hh
        | exact Calls.mono hh (fun e w'' he => by
            cases e with
            | returned v => exact he
            | panicked c => exact hq _ _ _ he
            | outgrown => obtain ⟨a', w', h⟩ := he; exact ⟨a', w', hq _ _ _ h⟩)
  | halt x w' =>
    cases x <;> simp only [Oper.upon] at hh ⊢ <;> first | exact hh | exact hq _ _ _ hh

theorem Oper.wp_noQ {P : Program} {o : Oper} {a : Act} {w : World} {K : Act → World → Prop} {Q' : Exit → Act → World → Prop} (hh : o.wp P a w K (QC E B fun _ _ => False)) : o.wp P a w K Q' := by
  have no : ∀ e a w, ¬ QC E B (fun _ _ => False) e a w := fun e a w ⟨_, _, _, h, _⟩ => h
  unfold Oper.wp at *
  generalize (execOp a.eval o).run P w = r at *
  cases r with
  | ok n w' =>
    cases n <;> simp only [Oper.upon] at hh ⊢ <;>
      first
        | exact hh
        | exact Calls.mono hh (fun e w'' he => by
            cases e with
            | returned v => exact he
            | panicked c => exact absurd he (no _ _ _)
            | outgrown => obtain ⟨a', w', h⟩ := he; exact absurd h (no _ _ _))
  | halt x w' =>
    cases x <;> simp only [Oper.upon] at hh ⊢ <;> first | exact hh | exact absurd hh (no _ _ _)

/-- ONE WALK IN THE TEXT's ORDER SERVES EVERY ORDER. -/
theorem any_pre {Qs : Exit → Act → World → Prop} {ops : Array Oper} {id n p : Nat} {as : List AOper} {vals : List AV} {σ : ASt} (hnle : n ≤ ops.size) (hc : compOps E.P B.nt [] id ops (List.range n) = some as) (ho : orderOk ops = true)
    (hl : vals.length = as.length) (hst : ∀ i o v, p ≤ i → as[i]? = some o → vals[i]? = some v → AStep E (pre σ as vals i) o v) (hanc : ∀ (listed : Array Bool), (∀ j, j < ops.size → listed.getD j false = true → ∀ oj e, ops[j]? = some oj → e ∈ oj.after → Region.binds .any e = true → listed.getD e.on false = true) →
      ∀ i oi, n ≤ i → ops[i]? = some oi → (∀ e ∈ oi.after, Region.binds .any e = true → listed.getD e.on false = true) → ∀ j, j < n → listed.getD j false = true)
    (Hend : ∀ (fuel : Nat) (listed : Array Bool) (tmps : List (Nat × AV)) (a : Act) (w : World) (g : Gh), listed.size = ops.size → (∀ j, j < n → listed.getD j false = true) → (∀ j, n ≤ j → listed.getD j false = false) →
      (∀ t, look tmps t = look (pre σ as vals as.length).tmps t) → (pre σ as vals as.length).heap = σ.heap →
      ((List.range ops.size).filter fun j => !listed.getD j false).length ≤ fuel → RA E B { σ with tmps := tmps } a w g → wpAny E.P .any ops Qs fuel listed a w) :
    ∀ (fuel : Nat) (listed : Array Bool) (tmps : List (Nat × AV)) (a : Act) (w : World) (g : Gh), listed.size = ops.size →
      (∀ j, j < ops.size → listed.getD j false = true → ∀ oj e, ops[j]? = some oj → e ∈ oj.after → Region.binds .any e = true → listed.getD e.on false = true) →
      (∀ j, n ≤ j → listed.getD j false = false) → (∀ j, j < p → listed.getD j false = true) →
      (∀ t, look tmps t = (lastW as vals (fun j => listed.getD j false) t as.length).getD (look σ.tmps t)) →
      ((List.range ops.size).filter fun j => !listed.getD j false).length ≤ fuel →
      RA E B { σ with tmps := tmps } a w g → wpAny E.P .any ops Qs fuel listed a w := by
  obtain ⟨hns, hord⟩ := orderOk_spec ho
  obtain ⟨hlen, hget⟩ := compOps_get _ _ hc
  simp only [List.length_range] at hlen
  have hlt : ∀ {j o}, ops[j]? = some o → j < ops.size := fun h => (Array.getElem?_eq_some_iff.1 h).1
  have hsome : ∀ {j}, j < ops.size → ∃ o, ops[j]? = some o := fun h => ⟨_, Array.getElem?_eq_getElem h⟩
  have hdst : ∀ (j : Nat) (o : Oper), j < n → ops[j]? = some o → (as[j]?).bind (fun x : AOper => x.dst) = o.dst := fun j o hjn hj => by
    obtain ⟨ao, gd, h1, _⟩ := hget j j o (by rw [List.getElem?_range hjn]) hj
    simp [h1]
  -- where nothing may come up, all has
  have hdone : ∀ (listed : Array Bool), listed.size = ops.size → Region.ready .any ops listed = [] → ∀ j, j < ops.size → listed.getD j false = true := by
    intro listed hsz hr j
    induction j using Nat.strongRecOn with
    | _ j ih =>
      intro hj
      obtain ⟨oj, hoj⟩ := hsome hj
      rcases hb : listed.getD j false with _ | _
      · exfalso
        have : j ∈ Region.ready .any ops listed := by
          refine mem_ready.2 ⟨?_, oj, hoj, fun e he hbe => ih e.on ((hord j oj hoj).1 e he hbe) (Nat.lt_trans ((hord j oj hoj).1 e he hbe) hj)⟩
          rw [Array.getD_eq_getD_getElem?] at hb ⊢
          have hjl : j < listed.size := by omega
          rw [Array.getElem?_eq_getElem hjl] at hb ⊢
          exact hb
        rw [hr] at this; cases this
      · rfl
  have hfin : ∀ (fuel : Nat) (listed : Array Bool) (tmps : List (Nat × AV)) (a : Act) (w : World) (g : Gh), listed.size = ops.size → (∀ j, j < n → listed.getD j false = true) → (∀ j, n ≤ j → listed.getD j false = false) →
      (∀ t, look tmps t = (lastW as vals (fun j => listed.getD j false) t as.length).getD (look σ.tmps t)) → ((List.range ops.size).filter fun j => !listed.getD j false).length ≤ fuel → RA E B { σ with tmps := tmps } a w g → wpAny E.P .any ops Qs fuel listed a w := by
    intro fuel listed tmps a w g hsz hall hno hlook hf hR
    refine Hend fuel listed tmps a w g hsz hall hno (fun t => ?_) (pre_look as vals σ as.length 0 hl (Nat.le_refl _)).1 hf hR
    rw [(pre_look as vals σ as.length t hl (Nat.le_refl _)).2]
    simp only [hlook]
    rw [lastW_congr (L' := fun _ => true) _ fun j hj _ => hall j (by omega)]
  intro fuel
  induction fuel with
  | zero =>
    intro listed tmps a w g hsz hcl hno hpre hlook hf hR
    have hall : ∀ j, j < ops.size → listed.getD j false = true := fun j hj => by
      rcases hb : listed.getD j false with _ | _
      · exfalso
        have : j ∈ ((List.range ops.size).filter fun j => !listed.getD j false) := by rw [List.mem_filter]; exact ⟨List.mem_range.2 hj, by rw [hb]; rfl⟩
        rw [List.length_eq_zero_iff.1 (Nat.le_zero.1 hf)] at this; cases this
      · rfl
    exact hfin 0 listed tmps a w g hsz (fun j hj => hall j (by omega)) hno hlook hf hR
  | succ fuel ih =>
    intro listed tmps a w g hsz hcl hno hpre hlook hf hR
    by_cases hall : ∀ j, j < n → listed.getD j false = true
    · exact hfin (fuel + 1) listed tmps a w g hsz hall hno hlook hf hR
    refine ⟨fun hr => absurd (fun j hj => hdone listed hsz hr j (by omega)) hall, fun i hi => ?_⟩
    obtain ⟨hun, oi, hoi, hw⟩ := mem_ready.1 hi
    have hil := hlt hoi
    have hin : i < n := by
      rcases Nat.lt_or_ge i n with h | h
      · exact h
      · exact absurd (hanc listed hcl i oi h hoi hw) hall
    have hLi : listed.getD i false = false := by
      rw [Array.getD_eq_getD_getElem?] at hun ⊢
      rw [Array.getElem?_eq_getElem (by omega)] at hun ⊢
      exact hun
    obtain ⟨ao, gd, hai, hao, hgd, hdk⟩ := hget i i oi (by rw [List.getElem?_range hin]) hoi
    have hvi : i < vals.length := by omega
    have hpi : p ≤ i := by
      rcases Nat.lt_or_ge i p with h | h
      · have := hpre i h; rw [hLi] at this; cases this
      · exact h
    have hA := hst i _ vals[i] hpi hai (List.getElem?_eq_getElem hvi)
    have hd := dstOk_spec hdk
    -- what the operation looks at is as in the text's order
    have hsame : ∀ t, t ∈ oi.looksAt ops → look tmps t = look (pre σ as vals i).tmps t := by
      intro t ht
      rw [hlook, (pre_look as vals σ i t hl (by omega)).2]
      congr 1
      have e1 : lastW as vals (fun j => listed.getD j false) t as.length = lastW as vals (fun j => decide (j < i)) t as.length := by
        refine lastW_congr _ fun j hj hdj => ?_
        obtain ⟨oj, hoj⟩ := hsome (show j < ops.size by omega)
        rw [hdst j oj (by omega) hoj] at hdj
        rcases Nat.lt_trichotomy j i with h | h | h
        · simp only [h, decide_true]
          rcases (hord i oi hoi).2 j oj h hoj with ⟨e, he, hb, rfl⟩ | hap
          · exact hw e he hb
          · exact absurd ht ((Oper.apart_spec hap).1 t hdj)
        · subst h; simpa using hLi
        · have : ¬ j < i := by omega
          simp only [this, decide_false]
          rcases hb : listed.getD j false with _ | _
          · rfl
          · exfalso
            rcases (hord j oj hoj).2 i oi h hoi with ⟨e, he, hbe, rfl⟩ | hap
            · have := hcl j (by omega) hb oj e hoj he hbe
              rw [hLi] at this; cases this
            · exact (Oper.apart_spec hap).2.2 t hdj ht
      rw [e1, lastW_above (m := i) _ (by omega) (fun j h1 h2 _ => by simp; omega)]
      exact lastW_congr _ fun j hj _ => by simpa using hj
    -- the state behind it
    have hnext : ∀ a' w' g', RA E B (({ σ with tmps := tmps } : ASt).putO oi.dst vals[i]) a' w' g' → wpAny E.P .any ops Qs fuel (listed.setIfInBounds i true) a' w' := by
      intro a' w' g' hR'
      have heq : ({ σ with tmps := tmps } : ASt).putO oi.dst vals[i] = { σ with tmps := (({ σ with tmps := tmps } : ASt).putO oi.dst vals[i]).tmps } := by
        cases oi.dst <;> rfl
      rw [heq] at hR'
      refine ih (listed.setIfInBounds i true) _ a' w' g' (by simpa using hsz) ?_ (fun j hj => by rw [getD_set_ne false (by omega)]; exact hno j hj) (fun j hj => getD_set_true (hpre j hj)) ?_ ?_ hR'
      · intro j hj hLj oj e hoj he hbe
        by_cases hji : i = j
        · subst hji
          rw [hoi] at hoj; cases hoj
          exact getD_set_true (hw e he hbe)
        · rw [getD_set_ne false hji] at hLj
          exact getD_set_true (hcl j hj hLj oj e hoj he hbe)
      · intro t
        rw [look_putO]
        by_cases hdt : oi.dst = some t
        · rw [if_pos hdt]
          have e2 : lastW as vals (fun j => (listed.setIfInBounds i true).getD j false) t as.length = lastW as vals (fun j => (listed.setIfInBounds i true).getD j false) t (i + 1) := by
            refine lastW_above _ (by omega) fun j h1 h2 hdj => ?_
            obtain ⟨oj, hoj⟩ := hsome (show j < ops.size by omega)
            rw [hdst j oj (by omega) hoj] at hdj
            rw [getD_set_ne false (by omega)]
            rcases hb : listed.getD j false with _ | _
            · rfl
            · exfalso
              rcases (hord j oj hoj).2 i oi (by omega) hoi with ⟨e, he, hbe, rfl⟩ | hap
              · have := hcl j (by omega) hb oj e hoj he hbe
                rw [hLi] at this; cases this
              · exact (Oper.apart_spec hap).2.1 t hdt hdj
          rw [e2]
          simp only [lastW]
          rw [if_pos ⟨by rw [Array.getD_eq_getD_getElem?]; simp [Array.getElem?_setIfInBounds, hsz, hil], by rw [hdst i oi hin hoi]; exact hdt⟩, List.getElem?_eq_getElem hvi]
          rfl
        · rw [if_neg hdt]
          simp only [hlook]
          congr 1
          refine lastW_congr _ fun j hj hdj => ?_
          obtain ⟨oj, hoj⟩ := hsome (show j < ops.size by omega)
          rw [hdst j oj (by omega) hoj] at hdj
          have hji : i ≠ j := by rintro rfl; rw [hoi] at hoj; cases hoj; exact hdt hdj
          rw [getD_set_ne false hji]
      · have e3 : ((List.range ops.size).filter fun j => !(listed.setIfInBounds i true).getD j false) = (((List.range ops.size).filter fun j => !listed.getD j false).filter fun j => j != i) := by
          rw [List.filter_filter]
          refine List.filter_congr fun j hj => ?_
          by_cases hji : i = j
          · subst hji
            have : (listed.setIfInBounds i true).getD i false = true := by rw [Array.getD_eq_getD_getElem?]; simp [Array.getElem?_setIfInBounds, hsz, hil]
            rw [this]; simp
          · rw [getD_set_ne false hji]
            have : (j != i) = true := by simp; omega
            rw [this]; simp
        rw [e3]
        have : (((List.range ops.size).filter fun j => !listed.getD j false).filter fun j => j != i).length < ((List.range ops.size).filter fun j => !listed.getD j false).length := by
          rw [List.length_filter_lt_length_iff_exists]
          exact ⟨i, by rw [List.mem_filter]; exact ⟨List.mem_range.2 hil, by rw [hLi]; rfl⟩, by simp⟩
        omega
    -- it is carried out, or passed over
    have hcop : cop E.P oi.op = some ao := by simpa [copT] using hao
    have hgo : adop E (pre σ as vals i).heap ((pre σ as vals i).ev E) ao (fun x => x = vals[i]) → oi.wp E.P a w (wpAny E.P .any ops Qs fuel (listed.setIfInBounds i true)) Qs := by
      intro hv
      have hev : ∀ x, x ∈ ao.ops → (pre σ as vals i).ev E x = ({ σ with tmps := tmps } : ASt).ev E x := by
        intro x hx
        have hx' := cop_ops hcop x hx
        cases x with
        | tmp t =>
          simp only [ASt.ev]
          rw [hsame t]
          exact List.mem_append_left _ (List.mem_filterMap.2 ⟨.tmp t, hx', rfl⟩)
        | _ => rfl
      rw [adop_congr ao hev, (pre_look as vals σ i 0 hl (by omega)).1] at hv
      refine Oper.wp_mono ?_ (Oper.wp_noQ (adop_sound (Q := fun _ _ => False) hcop hd hR hv))
      rintro a' w' ⟨σ', g', ⟨v, hv', rfl⟩, hR'⟩
      subst hv'
      exact hnext a' w' g' hR'
    have hskip : vals[i] = .lit undef → wpAny E.P .any ops Qs fuel (listed.setIfInBounds i true) (a.put oi.dst undef) w := by
      intro hu
      refine hnext _ _ g ?_
      rw [hu]
      exact putO_undef hR hd
    unfold wpOp
    simp only [hoi]
    unfold AStep at hA
    cases gd with
    | none =>
      have hgn : oi.guard = none := by
        unfold guardOf at hgd
        split at hgd
        · assumption
        · split at hgd <;> cases hgd
      simp only at hA
      rw [if_pos (by simp [Region.wanted, hgn])]
      exact .inl (hgo hA)
    | some tw =>
      obtain ⟨t, want⟩ := tw
      obtain ⟨h1, h2⟩ := guard_wanted hgd hR
      have htl : t ∈ oi.looksAt ops := by
        unfold guardOf at hgd
        split at hgd
        · cases hgd
        · rename_i jj ww hgg
          split at hgd
          · rename_i t' ht'
            cases hgd
            refine List.mem_append_right _ ?_
            simp [hgg, ht']
          · cases hgd
      simp only at hA
      rw [← hsame t htl] at hA
      split at hA
      · rename_i b hb
        rw [h1 b hb]
        by_cases hbw : b = want
        · rw [if_pos (by simp [hbw])]; exact .inl (hgo (hA.1 hbw))
        · rw [if_neg (by simpa using hbw)]; exact hskip (hA.2 (by cases b <;> cases want <;> first | rfl | exact absurd rfl hbw))
      · rename_i hb
        rw [h2 hb, if_neg (by simp)]; exact hskip hA
      · exact hA.elim


theorem any_sound {ops : Array Oper} {id : Nat} {as : List AOper} {vals : List AV} {σ : ASt} (hc : compOps E.P B.nt [] id ops (List.range ops.size) = some as) (ho : orderOk ops = true)
    (hl : vals.length = as.length) (hst : ∀ i o v, as[i]? = some o → vals[i]? = some v → AStep E (pre σ as vals i) o v) (hK : K (pre σ as vals as.length)) (hKQ : ∀ σ, K σ → Q .normal σ) :
    ∀ (fuel : Nat) (listed : Array Bool) (tmps : List (Nat × AV)) (a : Act) (w : World) (g : Gh), listed.size = ops.size →
      (∀ j, j < ops.size → listed.getD j false = true → ∀ oj e, ops[j]? = some oj → e ∈ oj.after → Region.binds .any e = true → listed.getD e.on false = true) →
      (∀ t, look tmps t = (lastW as vals (fun j => listed.getD j false) t as.length).getD (look σ.tmps t)) →
      ((List.range ops.size).filter fun j => !listed.getD j false).length ≤ fuel →
      RA E B { σ with tmps := tmps } a w g → wpAny E.P .any ops (QC E B Q) fuel listed a w := by
  intro fuel listed tmps a w g hsz hcl hlook hf hR
  refine any_pre (n := ops.size) (p := 0) (Nat.le_refl _) hc ho hl (fun i o v _ => hst i o v) (fun listed _ i oi hi hoi => ?_) (fun fuel listed tmps a w g hsz hall hno hlk hheap hf hR => ?_) fuel listed tmps a w g hsz hcl (fun j hj => ?_) (fun j hj => absurd hj (Nat.not_lt_zero _)) hlook hf hR
  · have := (Array.getElem?_eq_some_iff.1 hoi).1
    omega
  · have hq : QC E B Q .normal a w := ⟨.normal, _, g, hKQ _ hK, rfl, Weak.ra (σ := { σ with tmps := tmps }) ⟨hheap, fun t => .inl (hlk t).symm⟩ hR⟩
    have hr : Region.ready .any ops listed = [] := by
      apply List.eq_nil_iff_forall_not_mem.2
      intro j hj
      obtain ⟨h1, o, ho', _⟩ := mem_ready.1 hj
      have hjl := (Array.getElem?_eq_some_iff.1 ho').1
      have := hall j hjl
      rw [Array.getD_eq_getD_getElem?] at h1 this
      rw [Array.getElem?_eq_getElem (by rw [hsz]; exact hjl)] at h1 this
      simp at h1 this
      rw [h1] at this; cases this
    cases fuel with
    | zero => exact ⟨hr, hq⟩
    | succ fuel => exact ⟨fun _ => hq, fun i hi => by rw [hr] at hi; cases hi⟩
  · rw [Array.getD_eq_getD_getElem?, Array.getElem?_eq_none (by omega)]; rfl

end Go.Abs

namespace Go.Abs
open Go Go.RowKit

variable {E : Env} {B : Base}

theorem adraw_sound {K : ASt → Prop} {Q : AEx → ASt → Prop} {σ : ASt} {a : Act} {w : World} {g : Gh} {ops : Array Oper} {id : Nat} {as : List AOper} (hm : E.P.follows .mixedOrders = true) (ho : orderOk ops = true)
    (hc : compOps E.P B.nt [] id ops (List.range ops.size) = some as) (hKQ : ∀ σ, K σ → Q .normal σ) (hR : RA E B σ a w g) (hv : adraw E K as σ) : (Code.region id ops true).wp E.P (QC E B Q) a w := by
  obtain ⟨vals, hl, hst, hK⟩ := adraw_vals as σ hv
  refine wp_region_any hm ?_
  have hg : Grown w g σ.heap.length { w with drawn := w.drawn + 1 } g := ⟨Nat.le_refl _, rfl, rfl, rfl, fun _ _ => rfl, fun _ _ _ => rfl, fun _ _ => rfl, hR.gok⟩
  refine any_sound hc ho hl hst hK hKQ ops.size (Array.replicate ops.size false) σ.tmps a _ g (by simp) (fun j hj hL => ?_) (fun t => ?_) ?_ (hR.grow' hg)
  · exfalso
    rw [Array.getD_eq_getD_getElem?] at hL
    simp [hj] at hL
  · rw [lastW_none]
    · rfl
    · intro j _
      rw [Array.getD_eq_getD_getElem?]
      cases h : (Array.replicate ops.size false)[j]? with
      | none => rfl
      | some v => have := Array.getElem?_eq_some_iff.1 h; obtain ⟨_, rfl⟩ := this; simp
  · exact Nat.le_trans (List.length_filter_le _ _) (by simp)

theorem reach_listed {ops : Array Oper} {listed : Array Bool} (hcl : ∀ j, j < ops.size → listed.getD j false = true → ∀ oj e, ops[j]? = some oj → e ∈ oj.after → Region.binds .any e = true → listed.getD e.on false = true) :
    ∀ (f i j : Nat), reach ops f i j = true → (∀ oi, ops[i]? = some oi → ∀ e ∈ oi.after, Region.binds .any e = true → listed.getD e.on false = true) → listed.getD j false = true
  | 0, i, j, h, _ => by simp [reach] at h
  | f + 1, i, j, h, hi => by
    unfold reach at h
    split at h
    · cases h
    · rename_i o ho
      obtain ⟨e, he, hb⟩ := Array.any_eq_true'.1 h
      simp only [Bool.and_eq_true, Bool.or_eq_true, beq_iff_eq] at hb
      have hl := hi o ho e he hb.1
      rcases hb.2 with rfl | hr
      · exact hl
      · refine reach_listed hcl f e.on j hr fun oi hoi e' he' hb' => ?_
        exact hcl e.on (Array.getElem?_eq_some_iff.1 hoi).1 hl oi e' hoi he' hb'

theorem aop_noQ {K : ASt → Prop} {Q Q' : AEx → ASt → Prop} {σ : ASt} {d : Option Nat} {ao : AOp} (h : (match ao with | .call _ _ | .panic _ => false | _ => true) = true) (hv : aop E σ d K Q ao) : aop E σ d K Q' ao := by
  cases ao <;> first | exact hv | (simp at h; done)

/-- The last operations of a region, one behind the other. -/
theorem tails_sound {Q : AEx → ASt → Prop} {Qs : Exit → Act → World → Prop} {ops : Array Oper} {id : Nat} {hs : Hints} (ho : orderOk ops = true)
    (hQs : ∀ a w, QC E B Q .normal a w → Qs .normal a w) :
    ∀ (k n : Nat) (ts : List AOper), n + k = ops.size → (∀ i, n ≤ i → i < ops.size → ∀ j, j < i → reach ops ops.size i j = true) → compOps E.P B.nt hs id ops ((List.range ops.size).drop n) = some ts → (ts.all fun o => o.guard.isNone) = true →
      (noCall ts = true ∨ ∀ c a w, QC E B Q c a w → Qs c a w) →
      ∀ (fuel : Nat) (listed : Array Bool) (a : Act) (w : World) (g : Gh) (σ : ASt), listed.size = ops.size → (∀ j, j < n → listed.getD j false = true) → (∀ j, n ≤ j → listed.getD j false = false) →
      ((List.range ops.size).filter fun j => !listed.getD j false).length ≤ fuel → RA E B σ a w g → aops E (Q .normal) Q ts σ → wpAny E.P .any ops Qs fuel listed a w := by
  obtain ⟨_, hord⟩ := orderOk_spec ho
  intro k
  induction k with
  | zero =>
    intro n ts hn _ hc _ _ fuel listed a w g σ hsz hL hno hf hR hv
    rw [List.drop_eq_nil_of_le (by simp; omega)] at hc
    simp only [compOps, Option.some.injEq] at hc
    subst hc
    have hr : Region.ready .any ops listed = [] := by
      apply List.eq_nil_iff_forall_not_mem.2
      intro j hj
      obtain ⟨h1, o, ho', _⟩ := mem_ready.1 hj
      have hjl := (Array.getElem?_eq_some_iff.1 ho').1
      have := hL j (by omega)
      rw [Array.getD_eq_getD_getElem?] at h1 this
      rw [Array.getElem?_eq_getElem (by rw [hsz]; exact hjl)] at h1 this
      simp at h1 this
      rw [h1] at this; cases this
    have hq : Qs .normal a w := hQs _ _ ⟨.normal, σ, g, hv, rfl, hR⟩
    cases fuel with
    | zero => exact ⟨hr, hq⟩
    | succ fuel => exact ⟨fun _ => hq, fun i hi => by rw [hr] at hi; cases hi⟩
  | succ k ih =>
    intro n ts hn ha hc hgd hq fuel listed a w g σ hsz hL hno hf hR hv
    have hnl : n < ops.size := by omega
    have hdrop : (List.range ops.size).drop n = n :: (List.range ops.size).drop (n + 1) := by rw [List.drop_eq_getElem_cons (by simpa using hnl)]; simp
    rw [hdrop] at hc
    unfold compOps at hc
    split at hc
    · cases hc
    rename_i o hon
    split at hc
    rotate_left
    · cases hc
    rename_i ao gd rest hao hgdo hrest
    split at hc
    rotate_left
    · cases hc
    rename_i hdst
    cases hc
    simp only [List.all_cons, Bool.and_eq_true] at hgd
    have hg0 : gd = none := by simpa using hgd.1
    subst hg0
    have hgn : o.guard = none := by
      unfold guardOf at hgdo
      split at hgdo
      · assumption
      · split at hgdo <;> cases hgdo
    simp only [aops] at hv
    have hcl : ∀ j, j < ops.size → listed.getD j false = true → ∀ oj e, ops[j]? = some oj → e ∈ oj.after → Region.binds .any e = true → listed.getD e.on false = true := by
      intro j hj hLj oj e hoj he hb
      have hjn : j < n := by
        rcases Nat.lt_or_ge j n with h | h
        · exact h
        · rw [hno j h] at hLj; cases hLj
      exact hL _ (Nat.lt_trans ((hord j oj hoj).1 e he hb) hjn)
    have hun : listed[n]? = some false := by
      have := hno n (Nat.le_refl _)
      rw [Array.getD_eq_getD_getElem?] at this
      rw [Array.getElem?_eq_getElem (by omega)] at this ⊢
      simpa using this
    have hready : n ∈ Region.ready .any ops listed := mem_ready.2 ⟨by rw [Array.getD_eq_getD_getElem?, hun]; rfl, o, hon, fun e he hb => hL _ ((hord n o hon).1 e he hb)⟩
    have honly : ∀ {j}, j ∈ Region.ready .any ops listed → j = n := fun {j} hj => by
      obtain ⟨h1, oj, hoj, hw⟩ := mem_ready.1 hj
      have hjl := (Array.getElem?_eq_some_iff.1 hoj).1
      rcases Nat.lt_trichotomy j n with h | h | h
      · have := hL j h
        rw [Array.getD_eq_getD_getElem?] at h1 this
        rw [Array.getElem?_eq_getElem (by rw [hsz]; exact hjl)] at h1 this
        simp at h1 this
        rw [h1] at this; cases this
      · exact h
      · have := reach_listed hcl _ _ _ (ha j (by omega) hjl n h) fun oi hoi e he hb => by rw [hoj] at hoi; cases hoi; exact hw e he hb
        rw [hno n (Nat.le_refl _)] at this; cases this
    cases fuel with
    | zero =>
      exfalso
      have : n ∈ ((List.range ops.size).filter fun j => !listed.getD j false) := by rw [List.mem_filter]; exact ⟨List.mem_range.2 hnl, by rw [hno n (Nat.le_refl _)]; rfl⟩
      rw [List.length_eq_zero_iff.1 (Nat.le_zero.1 hf)] at this; cases this
    | succ fuel =>
      refine ⟨(fun hr => by rw [hr] at hready; cases hready), fun i hi => ?_⟩
      obtain rfl := honly hi
      have hnext : ∀ a' w', KC E B (fun σ' => aops E (Q .normal) Q rest σ') a' w' → wpAny E.P .any ops Qs fuel (listed.setIfInBounds i true) a' w' := by
        rintro a' w' ⟨σ', g', hk, hR'⟩
        refine ih (i + 1) rest (by omega) (fun i' h1 h2 => ha i' (by omega) h2) hrest hgd.2 ?_ fuel _ a' w' g' σ' (by simpa using hsz) ?_ ?_ ?_ hR' hk
        · rcases hq with hq | hq
          · left
            simp only [noCall, List.all_cons, Bool.and_eq_true] at hq
            exact hq.2
          · exact .inr hq
        · intro j hj
          rcases Nat.lt_or_ge j i with h | h
          · exact getD_set_true (hL j h)
          · obtain rfl : j = i := by omega
            rw [Array.getD_eq_getD_getElem?]; simp [Array.getElem?_setIfInBounds, hsz, hnl]
        · intro j hj
          rw [getD_set_ne false (by omega)]
          exact hno j (by omega)
        · have e3 : ((List.range ops.size).filter fun j => !(listed.setIfInBounds i true).getD j false) = (((List.range ops.size).filter fun j => !listed.getD j false).filter fun j => j != i) := by
            rw [List.filter_filter]
            refine List.filter_congr fun j hj => ?_
            by_cases hji : i = j
            · subst hji
              have : (listed.setIfInBounds i true).getD i false = true := by rw [Array.getD_eq_getD_getElem?]; simp [Array.getElem?_setIfInBounds, hsz, hnl]
              rw [this]; simp
            · rw [getD_set_ne false hji]
              have : (j != i) = true := by simp; omega
              rw [this]; simp
          rw [e3]
          have : (((List.range ops.size).filter fun j => !listed.getD j false).filter fun j => j != i).length < ((List.range ops.size).filter fun j => !listed.getD j false).length := by
            rw [List.length_filter_lt_length_iff_exists]
            exact ⟨i, by rw [List.mem_filter]; exact ⟨List.mem_range.2 hnl, by rw [hno i (Nat.le_refl _)]; rfl⟩, by simp⟩
          omega
      unfold wpOp
      simp only [hon]
      rw [if_pos (by simp [Region.wanted, hgn])]
      left
      rcases hq with hq | hq
      · simp only [noCall, List.all_cons, Bool.and_eq_true] at hq
        exact Oper.wp_mono (fun a' w' h => hnext a' w' h) (Oper.wp_noQ (op_sound (Q := fun _ _ => False) hao (dstOk_spec hdst) hR (aop_noQ hq.1 hv)))
      · have hop := op_sound (Q := Q) hao (dstOk_spec hdst) hR hv
        refine Oper.wp_mono (fun a' w' h => hnext a' w' h) ?_
        exact Oper.wp_post hq hop

theorem pre_zero (σ : ASt) (as : List AOper) (vals : List AV) : pre σ as vals 0 = σ := by cases as <;> cases vals <;> rfl

theorem replicate_false {n j : Nat} : (Array.replicate n false).getD j false = false := by
  rw [Array.getD_eq_getD_getElem?]
  cases h : (Array.replicate n false)[j]? with
  | none => rfl
  | some v => have := Array.getElem?_eq_some_iff.1 h; obtain ⟨_, rfl⟩ := this; simp

theorem mix_sound {Q : AEx → ASt → Prop} {σ : ASt} {a : Act} {w : World} {g : Gh} {ops : Array Oper} {id p n : Nat} {hs : Hints} {ac : ACode} (hm : E.P.follows .mixedOrders = true) (ho : orderOk ops = true)
    (hc : compMix E.P B.nt hs id ops p n = some ac) (hR : RA E B σ a w g) (hv : awp E ac Q σ) : (Code.region id ops true).wp E.P (QC E B Q) a w := by
  unfold compMix at hc
  split at hc
  rotate_left
  · cases hc
  rename_i hcond
  obtain ⟨hn, hpn, hall⟩ := hcond
  have hreach : ∀ i, n ≤ i → i < ops.size → ∀ j, j < i → reach ops ops.size i j = true := by
    intro i h1 h2 j hj
    have := List.all_eq_true.1 hall i (List.mem_range.2 h2)
    simp only [Bool.or_eq_true, decide_eq_true_eq, List.all_eq_true, List.mem_range] at this
    rcases this with h | h
    · omega
    · exact h j hj
  split at hc
  rotate_left
  · cases hc
  rename_i as ts has hts
  split at hc
  rotate_left
  · cases hc
  rename_i hgd
  have hg : Grown w g σ.heap.length { w with drawn := w.drawn + 1 } g := ⟨Nat.le_refl _, rfl, rfl, rfl, fun _ _ => rfl, fun _ _ _ => rfl, fun _ _ => rfl, hR.gok⟩
  have hanc : ∀ (listed : Array Bool), (∀ j, j < ops.size → listed.getD j false = true → ∀ oj e, ops[j]? = some oj → e ∈ oj.after → Region.binds .any e = true → listed.getD e.on false = true) →
      ∀ i oi, n ≤ i → ops[i]? = some oi → (∀ e ∈ oi.after, Region.binds .any e = true → listed.getD e.on false = true) → ∀ j, j < n → listed.getD j false = true := by
    intro listed hcl i oi hi hoi hw j hj
    have hil := (Array.getElem?_eq_some_iff.1 hoi).1
    exact reach_listed hcl _ _ _ (hreach i hi hil j (by omega)) fun oi' hoi' e he hb => by rw [hoi] at hoi'; cases hoi'; exact hw e he hb
  split at hc
  · -- no first one
    cases hc
    simp only [awp] at hv
    obtain ⟨vals, hl, hst, hK⟩ := adraw_vals as σ hv
    simp only [thenQ] at hK
    refine wp_region_any hm ?_
    refine any_pre (n := n) (p := 0) hn has ho hl (fun i o v _ => hst i o v) hanc (fun fuel listed tmps a w g hsz hL hno hlk hheap hf hR => ?_) ops.size (Array.replicate ops.size false) σ.tmps a _ g (by simp)
      (fun j hj hL => by rw [replicate_false] at hL; cases hL) (fun j _ => replicate_false) (fun j hj => absurd hj (Nat.not_lt_zero _)) (fun t => ?_) (Nat.le_trans (List.length_filter_le _ _) (by simp)) (hR.grow' hg)
    · exact tails_sound ho (fun _ _ h => h) (ops.size - n) n ts (by omega) hreach hts hgd (.inr fun _ _ _ h => h) fuel listed a w g _ hsz hL hno hf (Weak.ra (σ := { σ with tmps := tmps }) ⟨hheap, fun t => .inl (hlk t).symm⟩ hR) hK
    · rw [lastW_none]
      · rfl
      · intro j _; exact replicate_false
  · -- the first one hands its room on
    split at hc
    rotate_left
    · cases hc
    rename_i o ao0 mid ho0
    have main : ∀ (d t : Nat), o.dst = some d → (o.op = .move (.tmp t) ∨ o.op = .assign (.tmp t)) → t ≠ d → o.guard = none → noCall ts = true →
        awp E (.seq (.region [⟨some d, .take t, none⟩]) (.seq (.draw mid) (.region ts))) Q σ → (Code.region id ops true).wp E.P (QC E B Q) a w := by
      intro d t hd hop htd hog hnc hv
      obtain ⟨hlen, hget⟩ := compOps_get _ _ has
      simp only [List.length_range] at hlen
      have hn0 : 0 < n := by simp at hlen; omega
      obtain ⟨ao, gd, hai, hao, hgd0, hdk⟩ := hget 0 0 o (by rw [List.getElem?_range hn0]) ho0
      simp only [List.getElem?_cons_zero, Option.some.injEq] at hai
      have hdl : d < B.nt := by rw [hd] at hdk; simpa [dstOk] using hdk
      -- the room goes on
      let σ0 : ASt := { σ with tmps := (t, (look σ.tmps t).strip) :: σ.tmps }
      have hv1 : adraw E (fun σ' => aops E (Q .normal) Q ts σ') mid (σ0.put d (look σ.tmps t)) := by
        have h1 := hv
        simp only [awp, aops, aop] at h1
        exact h1.2
      obtain ⟨vals, hl, hst, hK⟩ := adraw_vals mid _ hv1
      have hR1 := (hR.grow' hg).take (t := t) (d := d) hdl htd
      have hdst0 : ao0.dst = some d := by rw [hai]; exact hd
      have hpre : ∀ i, pre σ0 (ao0 :: mid) (look σ.tmps t :: vals) (i + 1) = pre (σ0.put d (look σ.tmps t)) mid vals i := fun i => by
        simp only [pre, hdst0, ASt.putO]
      have hmove : ∀ w, (execOp a.eval o).run E.P w = .ok (.value (a.tmps.getD t undef)) w := fun w => by
        rcases hop with hop | hop <;> (unfold execOp; rw [hop]; rfl)
      have hnosel := (orderOk_spec ho).1
      obtain ⟨_, hord⟩ := orderOk_spec ho
      have hmid : wpAny E.P .any ops (fun e a w => e = .normal ∧ QC E B Q .normal a w) (ops.size - 1) ((Array.replicate ops.size false).setIfInBounds 0 true) (a.put o.dst (a.tmps.getD t undef)) { w with drawn := w.drawn + 1 } := by
        have hos : 0 < ops.size := by omega
        have hg0 : ((Array.replicate ops.size false).setIfInBounds 0 true).getD 0 false = true := by
          rw [Array.getD_eq_getD_getElem?]; simp [Array.getElem?_setIfInBounds, hos]
        have hgj : ∀ j, 0 < j → ((Array.replicate ops.size false).setIfInBounds 0 true).getD j false = false := fun j hj => by
          rw [getD_set_ne false (by omega)]; exact replicate_false
        refine any_pre (n := n) (p := 1) (σ := σ0) (as := ao0 :: mid) (vals := look σ.tmps t :: vals) hn has ho (by simp [hl]) (fun i o' v hi hio hiv => ?_) hanc (fun fuel listed tmps a w g hsz hL hno hlk hheap hf hR => ?_) (ops.size - 1) _
          (σ0.put d (look σ.tmps t)).tmps _ _ _ (by simp) (fun j hj hL oj e hoj he hb => ?_) (fun j hj => hgj j (by omega)) (fun j hj => (show 0 = j by omega) ▸ hg0) (fun t' => ?_) ?_ (by rw [hd]; exact hR1)
        · obtain ⟨i, rfl⟩ : ∃ i', i = i' + 1 := ⟨i - 1, by omega⟩
          rw [hpre]
          exact hst i o' v (by simpa using hio) (by simpa using hiv)
        · rw [show (ao0 :: mid).length = mid.length + 1 from rfl, hpre] at hlk hheap
          exact tails_sound (Q := Q) ho (fun _ _ h => ⟨rfl, h⟩) (ops.size - n) n ts (by omega) hreach hts hgd (.inl hnc) fuel listed a w g _ hsz hL hno hf (Weak.ra (σ := { σ0 with tmps := tmps }) ⟨hheap, fun t => .inl (hlk t).symm⟩ hR) hK
        · by_cases hj0 : j = 0
          · subst hj0
            have := (hord 0 oj hoj).1 e he hb
            omega
          · rw [hgj j (by omega)] at hL; cases hL
        · rw [lastW_above (m := 1) _ (by simp) (fun j h1 h2 _ => hgj j (by omega))]
          simp only [lastW, List.getElem?_cons_zero, Option.bind_some, hdst0, ASt.put, look]
          by_cases hdt : d = t'
          · subst hdt; simp [hos]
          · simp [hdt]
        · have e3 : ((List.range ops.size).filter fun j => !((Array.replicate ops.size false).setIfInBounds 0 true).getD j false) = (List.range ops.size).filter fun j => j != 0 := by
            refine List.filter_congr fun j hj => ?_
            by_cases hj0 : j = 0
            · subst hj0; rw [hg0]; rfl
            · rw [hgj j (by omega)]; simp [hj0]
          rw [e3]
          have hlt : ((List.range ops.size).filter fun j => j != 0).length < (List.range ops.size).length := by
            rw [List.length_filter_lt_length_iff_exists]
            exact ⟨0, List.mem_range.2 hos, by simp⟩
          simp at hlt ⊢
          omega
      have hfirst : wpAny E.P .any ops (fun e a w => e = .normal ∧ QC E B Q .normal a w) (ops.size - 1 + 1) (Array.replicate ops.size false) a { w with drawn := w.drawn + 1 } := by
        refine wpAny_first ho0 (Region.noSelect_spec hnosel) (fun c a w h => by cases h.1) _ _ _ _ (fun j oj hoj hj _ hno => ?_) (mem_ready.2 ⟨?_, o, ho0, fun e he hb => absurd ((hord 0 o ho0).1 e he hb) (Nat.not_lt_zero _)⟩) (.inl ⟨by simp [Region.wanted, hog], hmove⟩) hmid
        · rcases (hord j oj hoj).2 0 o (by omega) ho0 with ⟨e, he, hb, h0⟩ | hap
          · exact absurd h0 (hno e he hb)
          · exact hap
        · rw [Array.getD_eq_getD_getElem?]
          have hos : 0 < ops.size := by omega
          simp [hos]
      have hsz1 : ops.size - 1 + 1 = ops.size := by omega
      rw [hsz1] at hfirst
      refine wp_mono (wp_region_any hm hfirst) ?_
      rintro e a' w' ⟨rfl, h⟩
      exact h
    split at hc
    · rename_i d t hd hop
      split at hc
      · rename_i h; obtain ⟨h1, h2, h3⟩ := h; cases hc; exact main d t hd (.inl hop) h1 h2 h3 hv
      · cases hc
    · rename_i d t hd hop
      split at hc
      · rename_i h; obtain ⟨h1, h2, h3⟩ := h; cases hc; exact main d t hd (.inr hop) h1 h2 h3 hv
      · cases hc
    · cases hc
  · cases hc

theorem least_exists {p : Nat → Prop} (h : ∃ n, p n) : ∃ n, p n ∧ ∀ m, p m → n ≤ m := by
  obtain ⟨n, hn⟩ := h
  induction n using Nat.strongRecOn with
  | _ n ih =>
    by_cases h : ∃ m, m < n ∧ p m
    · obtain ⟨m, hm, hp⟩ := h; exact ih m hm hp
    · exact ⟨n, hn, fun m hp => by
        rcases Nat.lt_or_ge m n with h' | h'
        · exact absurd ⟨m, h', hp⟩ h
        · exact h'⟩

open Classical in
/-- The least number of which something holds. -/
noncomputable def least (p : Nat → Prop) : Nat := if h : ∃ n, p n then Classical.choose (least_exists h) else 0
theorem least_spec {p : Nat → Prop} (h : ∃ n, p n) : p (least p) := by
  unfold least; rw [dif_pos h]; exact (Classical.choose_spec (least_exists h)).1
theorem least_le {p : Nat → Prop} {m : Nat} (hm : p m) : least p ≤ m := by
  unfold least; rw [dif_pos ⟨m, hm⟩]; exact (Classical.choose_spec (least_exists ⟨m, hm⟩)).2 m hm

theorem awp_sound : ∀ (c : Code) (ac : ACode) (hs : Hints) (Q : AEx → ASt → Prop) (σ : ASt), comp E.P B.nt hs c = some ac → awp E ac Q σ →
    ∀ a w g, RA E B σ a w g → c.wp E.P (QC E B Q) a w := by
  intro c
  induction c with
  | skip => intro ac hs Q σ hc hv a w g hR; simp only [comp] at hc; cases hc; exact wp_skip ⟨.normal, σ, g, hv, rfl, hR⟩
  | label l => intro ac hs Q σ hc hv a w g hR; simp only [comp] at hc; cases hc; exact wp_label ⟨.normal, σ, g, hv, rfl, hR⟩
  | ret => intro ac hs Q σ hc hv a w g hR; simp only [comp] at hc; cases hc; exact wp_ret ⟨.ret, σ, g, hv, rfl, hR⟩
  | exit id => intro ac hs Q σ hc hv a w g hR; simp only [comp] at hc; cases hc; exact wp_exit ⟨.exit id, σ, g, hv, rfl, hR⟩
  | region id ops draw =>
    intro ac hs Q σ hc hv a w g hR
    cases draw with
    | false =>
      simp only [comp, Option.map_eq_some_iff] at hc
      obtain ⟨as, h1, rfl⟩ := hc
      exact wp_region (aops_sound _ as σ a w g h1 hR hv)
    | true =>
      simp only [comp] at hc
      split at hc
      · rename_i hb
        simp only [Bool.and_eq_true] at hb
        split at hc
        · exact mix_sound hb.1 hb.2 hc hR hv
        · simp only [Option.map_eq_some_iff] at hc
          obtain ⟨as, h1, rfl⟩ := hc
          exact adraw_sound hb.1 hb.2 h1 (fun _ h => h) hR hv
      · cases hc
  | seq x y ihx ihy =>
    intro ac hs Q σ hc hv a w g hR
    simp only [comp] at hc
    split at hc
    · rename_i ax ay hx hy
      cases hc
      simp only [awp] at hv
      refine wp_seq (wp_mono (ihx ax hs _ σ hx hv a w g hR) ?_)
      rintro e a' w' ⟨ae, σ', g', hq, he, hR'⟩
      cases ae with
      | normal => cases he; exact ihy ay hs Q σ' hy hq a' w' g' hR'
      | exit id => cases he; exact ⟨_, σ', g', hq, rfl, hR'⟩
      | ret => cases he; exact ⟨_, σ', g', hq, rfl, hR'⟩
      | panic v => obtain ⟨u, rfl, hr⟩ := he; exact ⟨_, σ', g', hq, ⟨u, rfl, hr⟩, hR'⟩
    · cases hc
  | cond c x y ihx ihy =>
    intro ac hs Q σ hc hv a w g hR
    simp only [comp] at hc
    split at hc
    · rename_i ax ay hx hy
      cases hc
      simp only [awp] at hv
      split at hv
      · rename_i b hb
        have hr := ASt.ev_rep hR c
        rw [hb, Rep.lit_iff] at hr
        exact wp_cond_split hr (fun h => ihx ax hs Q σ hx (hv.1 h) a w g hR) (fun h => ihy ay hs Q σ hy (hv.2 h) a w g hR)
      · exact hv.elim
    · cases hc
  | block id c ih =>
    intro ac hs Q σ hc hv a w g hR
    simp only [comp, Option.map_eq_some_iff] at hc
    obtain ⟨ax, hx, rfl⟩ := hc
    simp only [awp] at hv
    refine wp_block (wp_mono (ih ax hs _ σ hx hv a w g hR) ?_)
    rintro e a' w' ⟨ae, σ', g', hq, he, hR'⟩
    cases ae with
    | normal => cases he; exact ⟨_, σ', g', hq, rfl, hR'⟩
    | exit id' =>
      cases he
      simp only [blockQ] at hq
      simp only [Exit.inBlock]
      split
      · rename_i hi; rw [if_pos hi] at hq; exact ⟨_, σ', g', hq, rfl, hR'⟩
      · rename_i hi; rw [if_neg hi] at hq; exact ⟨_, σ', g', hq, rfl, hR'⟩
    | ret => cases he; exact ⟨_, σ', g', hq, rfl, hR'⟩
    | panic v => obtain ⟨u, rfl, hr⟩ := he; exact ⟨_, σ', g', hq, ⟨u, rfl, hr⟩, hR'⟩
  | loop c ih =>
    intro ac hs Q σ hc hv a w g hR
    simp only [comp, Option.map_eq_some_iff] at hc
    obtain ⟨ax, hx, rfl⟩ := hc
    simp only [awp] at hv
    obtain ⟨I, ⟨n, σ0, hw0, hI0⟩, hround⟩ := hv
    let p : Act → World → Nat → Prop := fun a w n => ∃ σ' g', I n σ' ∧ RA E B σ' a w g'
    refine wp_loop (fun a w => ∃ n, p a w n) (fun a w => least (p a w)) ⟨n, σ0, g, hI0, hw0.ra hR⟩ ?_
    intro a1 w1 hI1
    obtain ⟨σ1, g1, h1, hR1⟩ := least_spec hI1
    refine wp_mono (ih ax hs _ σ1 hx (hround _ σ1 h1) a1 w1 g1 hR1) ?_
    rintro e a' w' ⟨ae, σ', g', hq, he, hR'⟩
    cases ae with
    | normal =>
      cases he
      obtain ⟨m, σ2, hm, hw2, hI2⟩ := hq
      have hp : p a' w' m := ⟨σ2, g', hI2, hw2.ra hR'⟩
      exact ⟨⟨m, hp⟩, Nat.lt_of_le_of_lt (least_le hp) hm⟩
    | exit id => cases he; exact ⟨_, σ', g', hq, rfl, hR'⟩
    | ret => cases he; exact ⟨_, σ', g', hq, rfl, hR'⟩
    | panic v => obtain ⟨u, rfl, hr⟩ := he; exact ⟨_, σ', g', hq, ⟨u, rfl, hr⟩, hR'⟩
  | _ => intro ac hs Q σ hc; simp [comp] at hc


/-! ### A function -/

mutual
/-- No object from n on is named. -/
def AV.under (n : Nat) : AV → Bool
  | .any => true
  | .lit _ => true
  | .agg cs => unders n cs
  | .tup cs => unders n cs
  | .sl _ es => unders n es
  | .cp cs => unders n cs
  | .ref id _ => decide (id < n)
  | .vw id _ _ _ => decide (id < n)
  | .fn _ first caps => unders n first && unders n caps
  | .ifc _ v => AV.under n v
  | .bp _ => true
  | .buf _ _ => true
def unders (n : Nat) : List AV → Bool
  | [] => true
  | a :: as => AV.under n a && unders n as
end

mutual
theorem Rep.fewer {w g n n'} : ∀ (av : AV) (v : Value), AV.under n' av = true → Rep w g n av v → Rep w g n' av v
  | .any, _, _, _ => by simp [Rep]
  | .lit _, _, _, h => by simpa [Rep] using h
  | .agg cs, v, hb, h => by
    simp only [Rep] at h ⊢
    obtain ⟨vs, rfl, h⟩ := h
    exact ⟨vs, rfl, Reps.fewer cs _ (by simpa [AV.under] using hb) h⟩
  | .tup cs, v, hb, h => by
    simp only [Rep] at h ⊢
    obtain ⟨vs, rfl, h⟩ := h
    exact ⟨vs, rfl, Reps.fewer cs _ (by simpa [AV.under] using hb) h⟩
  | .sl c es, v, hb, h => by
    simp only [Rep] at h ⊢
    obtain ⟨base, len, cap, rfl, h1, h2, h3, h4, h5⟩ := h
    exact ⟨base, len, cap, rfl, h1, h2, h3, h4, fun a ha => let ⟨h6, k, h7⟩ := h5 a ha; ⟨h6, k, Els.fewer es _ _ _ (by simpa [AV.under] using hb) h7⟩⟩
  | .cp cs, v, hb, h => by
    simp only [Rep] at h ⊢
    obtain ⟨b, off, vs, rfl, h1, h2⟩ := h
    exact ⟨b, off, vs, rfl, h1, Reps.fewer cs _ (by simpa [AV.under] using hb) h2⟩
  | .ref id off, v, hb, h => by
    simp only [Rep] at h ⊢
    exact ⟨h.1, by simpa [AV.under] using hb⟩
  | .vw id off len cap, v, hb, h => by
    simp only [Rep] at h ⊢
    exact ⟨h.1, by simpa [AV.under] using hb, h.2.2⟩
  | .fn f first caps, v, hb, h => by
    simp only [Rep] at h ⊢
    obtain ⟨fa, ca, rfl, h1, h2⟩ := h
    simp only [AV.under, Bool.and_eq_true] at hb
    exact ⟨fa, ca, rfl, Reps.fewer first _ hb.1 h1, Reps.fewer caps _ hb.2 h2⟩
  | .ifc t av, v, hb, h => by
    simp only [Rep] at h ⊢
    obtain ⟨y, rfl, h1⟩ := h
    exact ⟨y, rfl, Rep.fewer av _ (by simpa [AV.under] using hb) h1⟩
  | .bp _, _, _, _ => by simp [Rep]
  | .buf _ _, _, _, _ => by simp [Rep]
theorem Reps.fewer {w g n n'} : ∀ (as : List AV) (vs : List Value), unders n' as = true → Reps w g n as vs → Reps w g n' as vs
  | [], _, _, h => by simpa [Reps] using h
  | a :: as, vs, hb, h => by
    simp only [Reps] at h ⊢
    obtain ⟨v, rest, rfl, h1, h2⟩ := h
    simp only [unders, Bool.and_eq_true] at hb
    exact ⟨v, rest, rfl, Rep.fewer a _ hb.1 h1, Reps.fewer as _ hb.2 h2⟩
theorem Els.fewer {w g n n'} : ∀ (es : List AV) (b off k : Nat), unders n' es = true → Els w g n es b off k → Els w g n' es b off k
  | [], _, _, _, _, _ => by simp [Els]
  | e :: es, b, off, k, hb, h => by
    simp only [Els] at h ⊢
    obtain ⟨⟨v, h1, h2, h3⟩, h4⟩ := h
    simp only [unders, Bool.and_eq_true] at hb
    exact ⟨⟨v, Rep.fewer e _ hb.1 h1, h2, h3⟩, Els.fewer es _ _ _ hb.2 h4⟩
end

mutual
theorem Rep.under {w g n} : ∀ (av : AV) (v : Value), Rep w g n av v → AV.under n av = true
  | .any, _, _ => by simp [AV.under]
  | .lit _, _, _ => by simp [AV.under]
  | .agg cs, v, h => by
    simp only [Rep] at h
    obtain ⟨vs, rfl, h⟩ := h
    simpa [AV.under] using Reps.under cs _ h
  | .tup cs, v, h => by
    simp only [Rep] at h
    obtain ⟨vs, rfl, h⟩ := h
    simpa [AV.under] using Reps.under cs _ h
  | .sl c es, v, h => by
    simp only [Rep] at h
    obtain ⟨base, len, cap, rfl, h1, h2, h3, h4, h5⟩ := h
    simp only [AV.under]
    cases base with
    | none =>
      have : es = [] := List.length_eq_zero_iff.1 (by have := h4 rfl; omega)
      subst this; rfl
    | some a => obtain ⟨_, k, h7⟩ := h5 a rfl; exact Els.under es _ _ _ h7
  | .cp cs, v, h => by
    simp only [Rep] at h
    obtain ⟨b, off, vs, rfl, h1, h2⟩ := h
    simpa [AV.under] using Reps.under cs _ h2
  | .ref id off, v, h => by simp only [Rep] at h; simpa [AV.under] using h.2
  | .vw id off len cap, v, h => by simp only [Rep] at h; simpa [AV.under] using h.2.1
  | .fn f first caps, v, h => by
    simp only [Rep] at h
    obtain ⟨fa, ca, rfl, h1, h2⟩ := h
    simp only [AV.under, Bool.and_eq_true]
    exact ⟨Reps.under first _ h1, Reps.under caps _ h2⟩
  | .ifc t av, v, h => by
    simp only [Rep] at h
    obtain ⟨y, rfl, h1⟩ := h
    simpa [AV.under] using Rep.under av _ h1
  | .bp _, _, _ => by simp [AV.under]
  | .buf _ _, _, _ => by simp [AV.under]
theorem Reps.under {w g n} : ∀ (as : List AV) (vs : List Value), Reps w g n as vs → unders n as = true
  | [], _, _ => by simp [unders]
  | a :: as, vs, h => by
    simp only [Reps] at h
    obtain ⟨v, rest, rfl, h1, h2⟩ := h
    simp only [unders, Bool.and_eq_true]
    exact ⟨Rep.under a _ h1, Reps.under as _ h2⟩
theorem Els.under {w g n} : ∀ (es : List AV) (b off k : Nat), Els w g n es b off k → unders n es = true
  | [], _, _, _, _ => by simp [unders]
  | e :: es, b, off, k, h => by
    simp only [Els] at h
    obtain ⟨⟨v, h1, h2, h3⟩, h4⟩ := h
    simp only [unders, Bool.and_eq_true]
    exact ⟨Rep.under e _ h1, Els.under es _ _ _ h4⟩
end

/-- The objects name no other objects than those that are there. -/
def Closed (h : List AObj) : Prop := ∀ l, AObj.cells l ∈ h → unders h.length l = true

theorem unders_of {n : Nat} : ∀ {l : List AV}, (∀ av, av ∈ l → AV.under n av = true) → unders n l = true
  | [], _ => rfl
  | a :: l, h => by simp only [unders, Bool.and_eq_true]; exact ⟨h a (by simp), unders_of fun x hx => h x (by simp [hx])⟩
theorem unders_get {n : Nat} : ∀ {l : List AV}, unders n l = true → ∀ {j : Nat} {av : AV}, l[j]? = some av → AV.under n av = true
  | [], _, j, av, h => by simp at h
  | a :: l, hb, j, av, h => by
    simp only [unders, Bool.and_eq_true] at hb
    cases j with
    | zero => simp at h; subst h; exact hb.1
    | succ j => simp at h; exact unders_get hb.2 h

theorem HeapOk.closed {w g h} (hh : HeapOk w g h) : Closed h := by
  intro l hl
  obtain ⟨id, hid⟩ := List.getElem?_of_mem hl
  obtain ⟨vs, e, hc⟩ := hh id l hid
  refine unders_of fun av hav => ?_
  obtain ⟨j, hj⟩ := List.getElem?_of_mem hav
  obtain ⟨v, _, h2, _⟩ := hc.rep j av hj
  exact Rep.under av v h2

/-- The last objects are forgotten. -/
theorem HeapOk.fewer {w g h j} (hh : HeapOk w g (h ++ j)) (hc : Closed h) : HeapOk w g h := by
  intro id l hl
  have hlt : id < h.length := by
    rcases Nat.lt_or_ge id h.length with h' | h'
    · exact h'
    · rw [List.getElem?_eq_none h'] at hl; cases hl
  obtain ⟨vs, e, hcell⟩ := hh id l (by rw [List.getElem?_append_left hlt]; exact hl)
  have hb := hc l (List.mem_of_getElem? hl)
  refine ⟨vs, e, hcell.blk, hcell.own, hcell.size, fun jj av hj => ?_, hcell.bp, hcell.buf⟩
  obtain ⟨v, h1, h2, h3⟩ := hcell.rep jj av hj
  have hbv := unders_get hb hj
  refine ⟨v, h1, Rep.fewer av v hbv h2, ?_⟩
  cases av <;> try exact trivial
  rename_i c es
  cases c <;> try exact trivial
  rename_i k
  cases v <;> try exact trivial
  rename_i a len cap
  cases a <;> try exact trivial
  simp only [SpareOk] at h3 ⊢
  exact ⟨h3.1, Els.fewer _ _ _ _ (by simpa [AV.under] using hbv) h3.2.1, h3.2.2⟩

/-- A result variable, resolved. -/
inductive ARV where
  | tmp (t : Nat) | cell (t : Nat) (n : Option Nat)

def crv (P : Program) : ResultVar → Option ARV
  | .tmp t => some (.tmp t)
  | .cell a t => (aggN P t).map (.cell a)

def crvs (P : Program) : List ResultVar → Option (List ARV)
  | [] => some []
  | r :: rs => match crv P r, crvs P rs with | some x, some l => some (x :: l) | _, _ => none

def rv (σ : ASt) : ARV → (AV → Prop) → Prop
  | .tmp t, K => K (look σ.tmps t).strip
  | .cell t n, K => (match look σ.tmps t with
    | .ref id off => (match σ.heap[id]? with
      | some (.cells l) => (match n with
        | none => (match l[off]? with | some v => K v.strip | none => False)
        | some n => off + n ≤ l.length ∧ K (.agg (((l.drop off).take n).map AV.strip)))
      | _ => False)
    | _ => False)

def rvs (σ : ASt) : List ARV → (List AV → Prop) → Prop
  | [], K => K []
  | r :: rs, K => rv σ r fun v => rvs σ rs fun vs => K (v :: vs)

/-- What a function hands back. -/
def resv (σ : ASt) (rs : List ARV) (K : AV → Prop) : Prop := rvs σ rs fun vs => match vs with | [v] => K v | vs => K (.tup vs)

def rvRun (ts : Array Value) : ResultVar → Sem Value
  | .tmp t => pure (ts.getD t undef)
  | .cell a t => do loadVar t (← asAddr (ts.getD a undef))

theorem rv_sound {P : Program} {w : World} {g : Gh} {σ : ASt} {ts : Array Value} {r : ResultVar} {ar : ARV} {K : AV → Prop} (hc : crv P r = some ar) (ht : TmpsOk w g σ.heap.length σ.tmps ts) (hh : HeapOk w g σ.heap) (hv : rv σ ar K) :
    ∃ v av, (rvRun ts r).run P w = .ok v w ∧ Rep w g σ.heap.length av v ∧ K av := by
  cases r with
  | tmp t => simp only [crv] at hc; cases hc; exact ⟨_, _, rfl, (ht t).1.strip, hv⟩
  | cell a t =>
    simp only [crv, Option.map_eq_some_iff] at hc
    obtain ⟨n, hn, rfl⟩ := hc
    have hr := (ht a).1
    simp only [rv] at hv
    split at hv
    · rename_i id off hl
      have hv' : vop σ.heap (fun _ => look σ.tmps a) (.load n (.tmp a)) K := by
        simp only [vop, hl]
        exact hv
      obtain ⟨v, av, h1, h2, _, h4⟩ := sound_load (P := P) (w := w) (g := g) (ρ := fun _ => ts.getD a undef) hn hr hh hv'
      refine ⟨v, av, ?_, h2, h4⟩
      rw [hl] at hr
      simp only [Rep] at hr
      simp only [rvRun]
      rw [hr.1] at h1 ⊢
      simp only [Instr.loadAt, Instr.sureAddr, Sem.run_bind, Sem.run_pure, Result.andThen_ok] at h1
      simp only [asAddr, Sem.run_bind, Sem.run_pure, Result.andThen_ok]
      revert h1
      generalize (loadVar t { block := g.loc id, off := off }).run P w = r
      intro h1
      cases r with
      | ok u w' => simp only [Result.andThen_ok] at h1; cases h1; rfl
      | halt x w' => cases h1
    · exact hv.elim

theorem rvs_sound {P : Program} {w : World} {g : Gh} {σ : ASt} {ts : Array Value} (ht : TmpsOk w g σ.heap.length σ.tmps ts) (hh : HeapOk w g σ.heap) : ∀ (rs : List ResultVar) (ars : List ARV) (K : List AV → Prop), crvs P rs = some ars → rvs σ ars K →
    ∃ vs avs, (rs.mapM (rvRun ts)).run P w = .ok vs w ∧ Reps w g σ.heap.length avs vs ∧ K avs
  | [], ars, K, hc, hv => by simp only [crvs] at hc; cases hc; exact ⟨[], [], by simp, by simp [Reps], hv⟩
  | r :: rs, ars, K, hc, hv => by
    simp only [crvs] at hc
    split at hc
    · rename_i x l hx hl
      cases hc
      simp only [rvs] at hv
      obtain ⟨v, av, h1, h2, h3⟩ := rv_sound hx ht hh hv
      obtain ⟨vs, avs, h4, h5, h6⟩ := rvs_sound ht hh rs l _ hl h3
      exact ⟨v :: vs, av :: avs, by simp [List.mapM_cons, h1, h4], Reps.cons'.2 ⟨h2, h5⟩, h6⟩
    · cases hc

theorem resv_sound {P : Program} {w : World} {g : Gh} {σ : ASt} {ts : Array Value} {fn : Func} {ars : List ARV} {K : AV → Prop} (hc : crvs P fn.results.toList = some ars) (ht : TmpsOk w g σ.heap.length σ.tmps ts) (hh : HeapOk w g σ.heap)
    (hv : resv σ ars K) : ∃ v av, (results fn ts).run P w = .ok v w ∧ Rep w g σ.heap.length av v ∧ K av := by
  obtain ⟨vs, avs, h1, h2, h3⟩ := rvs_sound ht hh _ _ _ hc hv
  have hm : (fn.results.mapM (rvRun ts)).run P w = .ok vs.toArray w := by
    rw [Array.mapM_eq_mapM_toList]
    simp [h1]
  have hres : (results fn ts).run P w = .ok (if h : vs.toArray.size = 1 then vs.toArray[0] else .tuple vs.toArray) w := by
    have : results fn ts = (do let vs ← fn.results.mapM (rvRun ts); pure (if h : vs.size = 1 then vs[0] else .tuple vs)) := by
      unfold results
      congr 1
    rw [this]
    simp [hm]
  rw [hres]
  match vs, avs, h2, h3 with
  | [], [], h2, h3 => exact ⟨_, .tup [], rfl, by simp only [Rep]; exact ⟨#[], rfl, by simp [Reps]⟩, h3⟩
  | [v], [av], h2, h3 => exact ⟨_, av, rfl, (Reps.cons'.1 h2).1, h3⟩
  | v :: v' :: vs, av :: av' :: avs, h2, h3 => exact ⟨_, .tup (av :: av' :: avs), rfl, by simp only [Rep]; exact ⟨(v :: v' :: vs).toArray, by simp, by simpa using h2⟩, h3⟩
  | [], av :: avs, h2, _ => exact absurd h2.length (by simp)
  | v :: vs, [], h2, _ => exact absurd h2.length (by simp)
  | [v], av :: av' :: avs, h2, _ => exact absurd h2.length (by simp)
  | v :: v' :: vs, [av], h2, _ => exact absurd h2.length (by simp)

/-- How a function's body may end. -/
def fnPost (n0 : Nat) (ars : List ARV) (Q : ARes → List AObj → Prop) (e : AEx) (σ : ASt) : Prop :=
  match e with
  | .normal | .ret => resv σ ars fun v => ∃ h1 junk, σ.heap = h1 ++ junk ∧ n0 ≤ h1.length ∧ Closed h1 ∧ AV.under h1.length v = true ∧ Q (.ret v) h1
  | .panic v => ∃ h1 junk, σ.heap = h1 ++ junk ∧ n0 ≤ h1.length ∧ Closed h1 ∧ AV.under h1.length v = true ∧ Q (.panic v) h1
  | _ => False

def numbered : Nat → List AV → List (Nat × AV)
  | _, [] => []
  | i, a :: as => (i, a) :: numbered (i + 1) as

theorem look_numbered : ∀ (as : List AV) (k i : Nat), look (numbered k as) (k + i) = (as[i]?).getD .any
  | [], k, i => by simp [numbered, look]
  | a :: as, k, 0 => by simp [numbered, look]
  | a :: as, k, i + 1 => by
    simp only [numbered, look]
    rw [if_neg (by omega)]
    have := look_numbered as (k + 1) i
    rw [show k + (i + 1) = k + 1 + i by omega, this]
    simp
theorem look_below : ∀ (as : List AV) (k i : Nat), i < k → look (numbered k as) i = .any
  | [], k, i, _ => by simp [numbered, look]
  | a :: as, k, i, h => by
    simp only [numbered, look]
    rw [if_neg (by omega)]
    exact look_below as (k + 1) i (by omega)

/-- A function, from its body. -/
theorem ev_of_awp {E : Env} {f : FuncId} {fn : Func} {c : Code} {ac : ACode} {hs : Hints} {ars : List ARV} {args : List AV} {h : List AObj} {Q : ARes → List AObj → Prop}
    (hf : E.P.funcs[f]? = some fn) (hn : (fn.name == "runtime.NumGoroutine") = false) (hb : fn.body = some c) (hc : comp E.P fn.ntmps hs c = some ac) (hr : crvs E.P fn.results.toList = some ars) (hnt : args.length ≤ fn.ntmps)
    (hv : Closed h → awp E ac (fnPost h.length ars Q) { tmps := numbered 0 args, heap := h }) : Ev E f args h Q := by
  intro w g vs hg hgl hh ha
  refine .inl ⟨?_, ?_⟩
  · simp only [callFunc, Sem.run_bind, run_program, Result.andThen_ok, hf, hn, hb]
    rfl
  · refine calls_of_wp hf hb ?_
    let B : Base := { nt := fn.ntmps, w0 := w, g0 := g, n0 := h.length }
    have hR : RA E B { tmps := numbered 0 args, heap := h } { tmps := vs ++ Array.replicate (fn.ntmps - vs.size) undef, defers := [] } w g := by
      refine ⟨?_, hg, hgl, fun i => ?_, hh, Stable.refl _ _ _, Nat.le_refl _, rfl⟩
      · simp [ha.1, B]; omega
      · have hl := look_numbered args 0 i
        rw [Nat.zero_add] at hl
        simp only [hl]
        cases hai : args[i]? with
        | none => exact ⟨by simp [Rep], trivial⟩
        | some av =>
          obtain ⟨v, h1, h2, h3⟩ := ha.2 i av hai
          have hlt : i < vs.size := (Array.getElem?_eq_some_iff.1 h1).1
          have : (vs ++ Array.replicate (fn.ntmps - vs.size) undef).getD i undef = v := by
            rw [Array.getD_eq_getD_getElem?, Array.getElem?_append_left hlt, h1]; rfl
          rw [this]
          exact ⟨h2, h3⟩
    refine wp_mono (awp_sound (B := B) c ac hs _ _ hc (hv hh.closed) _ w g hR) ?_
    rintro e a w' ⟨ae, σ', g', hq, he, hR'⟩
    have fin : ∀ (v : Value) (av : AV) (h1 junk : List AObj), Rep w' g' σ'.heap.length av v → σ'.heap = h1 ++ junk → Closed h1 → AV.under h1.length av = true → h.length ≤ h1.length →
        Rep w' g' h1.length av v ∧ GOk w' g' ∧ GlOk E w' g' ∧ HeapOk w' g' h1 ∧ Stable w g h.length w' g' ∧ h.length ≤ h1.length := by
      intro v av h1 junk hr hh1 hcl hu hle
      exact ⟨Rep.fewer av v hu hr, hR'.gok, hR'.gl, HeapOk.fewer (j := junk) (by rw [← hh1]; exact hR'.heap) hcl, hR'.st, hle⟩
    have hret : resv σ' ars (fun v => ∃ h1 junk, σ'.heap = h1 ++ junk ∧ h.length ≤ h1.length ∧ Closed h1 ∧ AV.under h1.length v = true ∧ Q (.ret v) h1) →
        a.defers = [] ∧ ∃ v, (results fn a.tmps).run E.P w' = .ok v w' ∧ ∃ r h' g', Q r h' ∧ EndRel w' g' h'.length r (.returned v) ∧ GOk w' g' ∧ GlOk E w' g' ∧ HeapOk w' g' h' ∧ Stable w g h.length w' g' ∧ h.length ≤ h'.length := by
      intro hq
      obtain ⟨v, av, h1, h2, hh1, junk, h3, h4, h5, h6, h7⟩ := resv_sound hr hR'.tmps hR'.heap hq
      obtain ⟨k1, k2⟩ := fin v av hh1 junk h2 h3 h5 h6 h4
      exact ⟨hR'.defers, v, h1, .ret av, hh1, g', h7, ⟨v, rfl, k1⟩, k2⟩
    cases ae with
    | normal => cases he; exact hret hq
    | ret => cases he; exact hret hq
    | exit id => exact hq.elim
    | panic av =>
      obtain ⟨v, rfl, hrv⟩ := he
      obtain ⟨hh1, junk, h3, h4, h5, h6, h7⟩ := hq
      obtain ⟨k1, k2⟩ := fin v av hh1 junk hrv h3 h5 h6 h4
      exact ⟨hR'.defers, .panic av, hh1, g', h7, ⟨v, rfl, k1⟩, k2⟩


/-- A function, resolved. -/
def cfn (P : Program) (hs : Hints) (fn : Func) : Option (ACode × List ARV × Nat) :=
  if fn.name == "runtime.NumGoroutine" then none else
  match fn.body with
  | none => none
  | some c => match comp P fn.ntmps hs c, crvs P fn.results.toList with
    | some ac, some ars => some (ac, ars, fn.ntmps)
    | _, _ => none

theorem ev_of {E : Env} {f : FuncId} {fn : Func} {hs : Hints} {ac : ACode} {ars : List ARV} {nt : Nat} (hf : E.P.funcs[f]? = some fn) (hc : cfn E.P hs fn = some (ac, ars, nt))
    {args : List AV} {h : List AObj} {Q : ARes → List AObj → Prop} (hnt : args.length ≤ nt)
    (hv : Closed h → awp E ac (fnPost h.length ars Q) { tmps := numbered 0 args, heap := h }) : Ev E f args h Q := by
  unfold cfn at hc
  split at hc
  · cases hc
  · rename_i hn
    split at hc
    · cases hc
    · rename_i c hb
      split at hc
      · rename_i ac' ars' h1 h2
        cases hc
        exact ev_of_awp hf (by simpa using hn) hb h1 h2 hnt hv
      · cases hc

end Go.Abs
