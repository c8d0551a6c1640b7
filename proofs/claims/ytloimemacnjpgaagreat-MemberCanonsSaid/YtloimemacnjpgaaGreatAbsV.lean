/- Reckoning with operations. -/
import Derived.Test.YtloimemacnjpgaaGreatAbsS
set_option linter.all false
namespace Go.Abs
open Go Go.RowKit

def mBnd (x : Option AV) (d : Int) (K : Int → Prop) (_ : Tag K) : Prop := match x with | none => K d | some v => (match v with | .lit (.int _ n) => K n | _ => False)

theorem bnd_iff {E : Env} {σ : ASt} {lo : Option Operand} {d : Int} {K : Int → Prop} : mBnd (lo.map (ASt.ev E σ)) d K .t ↔ ∃ l, (match lo with | none => l = d | some y => ∃ k, ASt.ev E σ y = .lit (.int k l)) ∧ K l := by
  cases lo with
  | none => simp [mBnd]
  | some y =>
    simp only [mBnd, Option.map_some]
    cases h : ASt.ev E σ y with
    | lit v => cases v <;> simp
    | _ => simp

theorem aw6 :
    (∀ (E : Env) σ x K s t, vF E σ (.move x) K s t = K (σ.ev E x)) ∧
    (∀ (E : Env) σ c a b K s t, vF E σ (.pick c a b) K s t = mBool (σ.ev E c) (fun u => K (if u then σ.ev E a else σ.ev E b)) .t) ∧
    (∀ (E : Env) σ x K s t, vF E σ (.nilCheck x) K s t = mNil (σ.ev E x) K .t) ∧
    (∀ (E : Env) σ op x y K s t, vF E σ (.bin op x y) K s t = mLit (σ.ev E x) (fun u => mLit (σ.ev E y) (fun v => binF op u v (fun r => K (.lit r)) .t) .t) .t) ∧
    (∀ (E : Env) σ neg x y K s t, vF E σ (.eqB neg x y) K s t = mBool (σ.ev E x) (fun a => mBool (σ.ev E y) (fun b => K (.lit (.bool (xor neg (decide (a = b)))))) .t) .t) ∧
    (∀ (E : Env) σ neg kind x y K s t, vF E σ (.eqN neg kind x y) K s t = mNn (nilness kind (σ.ev E x)) (nilness kind (σ.ev E y)) (fun b => K (.lit (.bool (xor neg b)))) .t) ∧
    (∀ (E : Env) σ x K s t, vF E σ (.un .not x) K s t = mBool (σ.ev E x) (fun b => K (.lit (.bool (!b)))) .t) ∧
    (∀ (E : Env) σ x K s t, vF E σ (.un .neg x) K s t = mInt (σ.ev E x) (fun k n => K (.lit (.int k (k.wrap (0 - n))))) .t) ∧
    (∀ (E : Env) σ k x K s t, vF E σ (.conv k x) K s t = mInt (σ.ev E x) (fun _ n => K (.lit (.int k (k.wrap n)))) .t) ∧
    (∀ (E : Env) σ x K s t, vF E σ (.convS x) K s t = mStr (σ.ev E x) (fun n => K (.lit (.string n))) .t) ∧
    (∀ (E : Env) σ x K s t, vF E σ (.toStr x) K s t = mSl (σ.ev E x) (fun _ es => mByt (bitesOf es) (fun l => K (.lit (.string ⟨l.toArray⟩))) .t) (fun _ _ _ _ => False) .t .t) ∧
    (∀ (E : Env) σ k x lo hi K s t, vF E σ (.slice k x lo hi) K s t = mSl (σ.ev E x) (fun c es => mBnd (lo.map (σ.ev E)) 0 (fun l => mBnd (hi.map (σ.ev E)) es.length (fun u =>
      Need (0 ≤ l ∧ l ≤ u ∧ u ≤ es.length ∧ (l = 0 ∨ ∀ e, e ∈ es → e.sure = true ∧ e.cells.length = k)) (K (.sl (capAft c es) ((es.take u.toNat).drop l.toNat))) .t) .t) .t)
      (fun id off len cap => mBnd (lo.map (σ.ev E)) 0 (fun l => mBnd (hi.map (σ.ev E)) len (fun u => Need (0 ≤ l ∧ l ≤ u ∧ u ≤ cap) (K (.vw id (offAt off k cap l.toNat) (u.toNat - l.toNat) (cap - l.toNat))) .t) .t) .t) .t .t) ∧
    (∀ (E : Env) σ x lo hi K s t, vF E σ (.sliceS x lo hi) K s t = mStr (σ.ev E x) (fun b => mBnd (lo.map (σ.ev E)) 0 (fun l => mBnd (hi.map (σ.ev E)) b.size (fun u =>
      Need (0 ≤ l ∧ l ≤ u ∧ u ≤ b.size) (K (.lit (.string (b.extract l.toNat u.toNat)))) .t) .t) .t) .t) ∧
    (∀ (E : Env) σ off x K s t, vF E σ (.fieldAddr off x) K s t = mPtr (σ.ev E x) (fun id o => K (.ref id (o + off))) (fun cs => K (.cp (cs.drop off))) .t .t) ∧
    (∀ (E : Env) σ off n x K s t, vF E σ (.field off (some n) x) K s t = mAgg (σ.ev E x) (fun cs => K (.agg ((cs.drop off).take n))) .t) ∧
    (∀ (E : Env) σ off x K s t, vF E σ (.field off none x) K s t = mAgg (σ.ev E x) (fun cs => mOpt cs[off]? (fun v => K v.strip) .t) .t) ∧
    (∀ (E : Env) σ k x i K s t, vF E σ (.indexAddr k x i) K s t = mSl (σ.ev E x) (fun _ es => mInt (σ.ev E i) (fun _ j => Need (0 ≤ j ∧ j < es.length) (Elem es j.toNat (fun e => Need (e.sure = true ∧ e.cells.length = k) (K (.cp e.cells)) .t) .t) .t) .t)
      (fun id off len _ => mInt (σ.ev E i) (fun _ j => Need (0 ≤ j ∧ j < len) (K (.ref id (off + j.toNat * k))) .t) .t) .t .t) ∧
    (∀ (E : Env) σ len k x i K s t, vF E σ (.indexAddrArr len k x i) K s t = mPtr (σ.ev E x) (fun id o => mInt (σ.ev E i) (fun _ j => Need (0 ≤ j ∧ j < len) (K (.ref id (o + j.toNat * k))) .t) .t)
      (fun cs => mInt (σ.ev E i) (fun _ j => Need (0 ≤ j ∧ j < len) (K (.cp (cs.drop (j.toNat * k)))) .t) .t) .t .t) ∧
    (∀ (E : Env) σ x i K s t, vF E σ (.indexS x i) K s t = mStr (σ.ev E x) (fun b => mInt (σ.ev E i) (fun _ j => Need (0 ≤ j ∧ j < b.size) (Byte b j.toNat (fun c => K (.lit (.int .u8 c.toNat))) .t) .t) .t) .t) ∧
    (∀ (E : Env) σ n x K s t, vF E σ (.load (some n) x) K s t = mPtr (σ.ev E x) (fun id off => mObj σ.heap[id]? (fun l => Need (off + n ≤ l.length) (K (.agg (((l.drop off).take n).map AV.strip))) .t) .t) (fun cs => Need (n ≤ cs.length) (K (.agg (cs.take n))) .t) .t .t) ∧
    (∀ (E : Env) σ x K s t, vF E σ (.load none x) K s t = mPtr (σ.ev E x) (fun id off => mObj σ.heap[id]? (fun l => mOpt l[off]? (fun v => K v.strip) .t) .t) (fun cs => mOpt cs[0]? (fun v => K v.strip) .t) .t .t) ∧
    (∀ (E : Env) σ x i K s t, vF E σ (.extract x i) K s t = mTup (σ.ev E x) (fun vs => mOpt vs[i]? (fun v => K v.strip) .t) .t) ∧
    (∀ (E : Env) σ x K s t, vF E σ (.len true x) K s t = mStr (σ.ev E x) (fun b => K (.lit (.int .i64 b.size))) .t) ∧
    (∀ (E : Env) σ x K s t, vF E σ (.len false x) K s t = mSl (σ.ev E x) (fun _ es => K (.lit (.int .i64 es.length))) (fun _ _ len _ => K (.lit (.int .i64 len))) .t .t) ∧
    (∀ (E : Env) σ u x K s t, vF E σ (.mkIface u x) K s t = K (.ifc u (σ.ev E x))) ∧
    (∀ (E : Env) σ f first caps K s t, vF E σ (.mkFunc f first caps) K s t = K (.fn f (first.map (σ.ev E)) (caps.map (σ.ev E)))) ∧
    (∀ (E : Env) σ zero parts K s t, vF E σ (.build zero parts) K s t = mLst (fillA (σ.ev E) zero parts) (fun cs => K (.agg cs)) .t) ∧
    (∀ d K t, mBnd none d K t = K d) ∧ (∀ k n d K t, mBnd (some (.lit (.int k n))) d K t = K n) := by
  refine ⟨fun _ _ _ _ _ _ => rfl, ?_, ?_, ?_, ?_, ?_, ?_, ?_, ?_, ?_, ?_, ?_, ?_, ?_, ?_, ?_, ?_, ?_, ?_, ?_, ?_, ?_, ?_, ?_, fun _ _ _ _ _ _ _ => rfl, fun _ _ _ _ _ _ _ _ => rfl, ?_, fun _ _ _ => rfl, fun _ _ _ _ _ => rfl⟩
  case refine_1 => intro E σ c a b K s t; simp only [vF, vop, mBool]; cases ASt.ev E σ c with
    | lit v => cases v <;> rfl
    | _ => rfl
  case refine_2 => intro E σ x K s t; simp only [vF, vop, mNil]; cases ASt.ev E σ x with
    | fn f a b => cases f <;> rfl
    | _ => rfl
  case refine_3 => intro E σ op x y K s t; simp only [vF, vop, mLit, binF]; cases ASt.ev E σ x <;> cases ASt.ev E σ y <;> rfl
  case refine_4 => intro E σ neg x y K s t; simp only [vF, vop, mBool]; cases ASt.ev E σ x with
    | lit v => cases v with
      | bool b => cases ASt.ev E σ y with
        | lit v => cases v <;> rfl
        | _ => rfl
      | _ => rfl
    | _ => rfl
  case refine_5 => intro E σ neg kind x y K s t; simp only [vF, vop, mNn]; cases nilness kind (ASt.ev E σ x) with
    | none => rfl
    | some a => cases nilness kind (ASt.ev E σ y) with
      | none => cases a <;> rfl
      | some b => cases a <;> cases b <;> first | rfl | (simp)
  case refine_6 => intro E σ x K s t; simp only [vF, vop, mBool]; cases ASt.ev E σ x with
    | lit v => cases v <;> rfl
    | _ => rfl
  case refine_7 => intro E σ x K s t; simp only [vF, vop, mInt]; cases ASt.ev E σ x with
    | lit v => cases v <;> rfl
    | _ => rfl
  case refine_8 => intro E σ k x K s t; simp only [vF, vop, mInt]; cases ASt.ev E σ x with
    | lit v => cases v <;> rfl
    | _ => rfl
  case refine_9 => intro E σ x K s t; simp only [vF, vop, mStr]; cases ASt.ev E σ x with
    | lit v => cases v <;> rfl
    | _ => rfl
  case refine_10 => intro E σ x K s t; simp only [vF, vop, mSl, mByt]; cases ASt.ev E σ x with
    | sl c es => cases bitesOf es <;> rfl
    | _ => rfl
  case refine_11 =>
    intro E σ k x lo hi K s t; simp only [vF, vop, mSl]; cases ASt.ev E σ x with
    | sl c es =>
      simp only
      apply propext
      rw [bnd_iff]
      constructor
      · rintro ⟨l, u, h1, h2, h3, h4, h5, h6, h7⟩; exact ⟨l, (by cases lo <;> exact h1), bnd_iff.2 ⟨u, (by cases hi <;> exact h2), ⟨h3, h4, h5, h6⟩, h7⟩⟩
      · rintro ⟨l, h1, h⟩; obtain ⟨u, h2, ⟨h3, h4, h5, h6⟩, h7⟩ := bnd_iff.1 h; exact ⟨l, u, (by cases lo <;> exact h1), (by cases hi <;> exact h2), h3, h4, h5, h6, h7⟩
    | vw id off len cap =>
      simp only
      apply propext
      rw [bnd_iff]
      constructor
      · rintro ⟨l, u, h1, h2, h3, h4, h5, h7⟩; exact ⟨l, (by cases lo <;> exact h1), bnd_iff.2 ⟨u, (by cases hi <;> exact h2), ⟨h3, h4, h5⟩, h7⟩⟩
      · rintro ⟨l, h1, h⟩; obtain ⟨u, h2, ⟨h3, h4, h5⟩, h7⟩ := bnd_iff.1 h; exact ⟨l, u, (by cases lo <;> exact h1), (by cases hi <;> exact h2), h3, h4, h5, h7⟩
    | _ => rfl
  case refine_12 =>
    intro E σ x lo hi K s t; simp only [vF, vop, mStr]; cases ASt.ev E σ x with
    | lit v => cases v with
      | string b =>
        simp only
        apply propext
        rw [bnd_iff]
        constructor
        · rintro ⟨l, u, h1, h2, h3, h4, h5, h7⟩; exact ⟨l, (by cases lo <;> exact h1), bnd_iff.2 ⟨u, (by cases hi <;> exact h2), ⟨h3, h4, h5⟩, h7⟩⟩
        · rintro ⟨l, h1, h⟩; obtain ⟨u, h2, ⟨h3, h4, h5⟩, h7⟩ := bnd_iff.1 h; exact ⟨l, u, (by cases lo <;> exact h1), (by cases hi <;> exact h2), h3, h4, h5, h7⟩
      | _ => rfl
    | _ => rfl
  case refine_13 => intro E σ off x K s t; simp only [vF, vop, mPtr]; cases ASt.ev E σ x <;> rfl
  case refine_14 => intro E σ off n x K s t; simp only [vF, vop, mAgg]; cases ASt.ev E σ x <;> rfl
  case refine_15 => intro E σ off x K s t; simp only [vF, vop, mAgg, mOpt]; cases ASt.ev E σ x with
    | agg cs => cases cs[off]? <;> rfl
    | _ => rfl
  case refine_16 => intro E σ k x i K s t; simp only [vF, vop, mSl, mInt]; cases ASt.ev E σ x with
    | sl c es => cases ASt.ev E σ i with
      | lit v => cases v with
        | int kk j =>
          simp only [Need, Elem]
          apply propext
          constructor
          · rintro ⟨h1, h2⟩; exact ⟨h1, fun e he => ⟨⟨(h2 e he).1, (h2 e he).2.1⟩, (h2 e he).2.2⟩⟩
          · rintro ⟨h1, h2⟩; exact ⟨h1, fun e he => ⟨(h2 e he).1.1, (h2 e he).1.2, (h2 e he).2⟩⟩
        | _ => rfl
      | _ => rfl
    | vw a b c d => cases ASt.ev E σ i with
      | lit v => cases v <;> rfl
      | _ => rfl
    | _ => rfl
  case refine_17 => intro E σ len k x i K s t; simp only [vF, vop, mPtr, mInt]; cases ASt.ev E σ x with
    | ref a b => cases ASt.ev E σ i with
      | lit v => cases v <;> rfl
      | _ => rfl
    | cp a => cases ASt.ev E σ i with
      | lit v => cases v <;> rfl
      | _ => rfl
    | _ => rfl
  case refine_18 => intro E σ x i K s t; simp only [vF, vop, mStr, mInt]; cases ASt.ev E σ x with
    | lit v => cases v with
      | string b => cases ASt.ev E σ i with
        | lit v => cases v <;> rfl
        | _ => rfl
      | _ => rfl
    | _ => rfl
  case refine_19 => intro E σ n x K s t; simp only [vF, vop, mPtr, mObj]; cases ASt.ev E σ x with
    | ref a b => cases σ.heap[a]? with
      | none => rfl
      | some o => cases o <;> rfl
    | _ => rfl
  case refine_20 => intro E σ x K s t; simp only [vF, vop, mPtr, mObj, mOpt]; cases ASt.ev E σ x with
    | ref a b => simp only; cases σ.heap[a]? with
      | none => rfl
      | some o => cases o with
        | cells l => simp only; cases l[b]? <;> rfl
        | _ => rfl
    | cp cs => simp only; cases cs[0]? <;> rfl
    | _ => rfl
  case refine_21 => intro E σ x i K s t; simp only [vF, vop, mTup, mOpt]; cases ASt.ev E σ x with
    | tup vs => cases h : vs[i]? <;> simp [h]
    | _ => rfl
  case refine_22 => intro E σ x K s t; simp only [vF, vop, mStr]; cases ASt.ev E σ x with
    | lit v => cases v <;> rfl
    | _ => rfl
  case refine_23 => intro E σ x K s t; simp only [vF, vop, mSl]; cases ASt.ev E σ x <;> rfl
  case refine_24 => intro E σ zero parts K s t; simp only [vF, vop, mLst]; cases fillA (ASt.ev E σ) zero parts <;> rfl

theorem aw7 :
    (∀ k a k' b K t, binF .add (.int k a) (.int k' b) K t = Need (k = k') (K (.int k (k.wrap (a + b)))) .t) ∧
    (∀ k a k' b K t, binF .sub (.int k a) (.int k' b) K t = Need (k = k') (K (.int k (k.wrap (a - b)))) .t) ∧
    (∀ k a k' b K t, binF .mul (.int k a) (.int k' b) K t = Need (k = k') (K (.int k (k.wrap (a * b)))) .t) ∧
    (∀ k a k' b K t, binF .quo (.int k a) (.int k' b) K t = Need (k = k' ∧ b ≠ 0) (K (.int k (k.wrap (a.tdiv b)))) .t) ∧
    (∀ k a k' b K t, binF .rem (.int k a) (.int k' b) K t = Need (k = k' ∧ b ≠ 0) (K (.int k (a.tmod b))) .t) ∧
    (∀ k a k' b K t, binF .shl (.int k a) (.int k' b) K t = Need (0 ≤ b) (K (.int k (k.wrap (a * 2 ^ (min b.toNat k.bits))))) .t) ∧
    (∀ k a k' b K t, binF .shr (.int k a) (.int k' b) K t = Need (0 ≤ b) (K (.int k (a.fdiv (2 ^ (min b.toNat k.bits))))) .t) ∧
    (∀ k a k' b K t, binF .and (.int k a) (.int k' b) K t = Need (k = k') (K (.int k (ibits .and k a b))) .t) ∧
    (∀ k a k' b K t, binF .or (.int k a) (.int k' b) K t = Need (k = k') (K (.int k (ibits .or k a b))) .t) ∧
    (∀ k a k' b K t, binF .xor (.int k a) (.int k' b) K t = Need (k = k') (K (.int k (ibits .xor k a b))) .t) ∧
    (∀ k a k' b K t, binF .eql (.int k a) (.int k' b) K t = Need (k = k') (K (.bool (decide (a = b)))) .t) ∧
    (∀ k a k' b K t, binF .neq (.int k a) (.int k' b) K t = Need (k = k') (K (.bool (!decide (a = b)))) .t) ∧
    (∀ k a k' b K t, binF .lss (.int k a) (.int k' b) K t = Need (k = k') (K (.bool (decide (a < b)))) .t) ∧
    (∀ k a k' b K t, binF .leq (.int k a) (.int k' b) K t = Need (k = k') (K (.bool (decide (a ≤ b)))) .t) ∧
    (∀ k a k' b K t, binF .gtr (.int k a) (.int k' b) K t = Need (k = k') (K (.bool (decide (b < a)))) .t) ∧
    (∀ k a k' b K t, binF .geq (.int k a) (.int k' b) K t = Need (k = k') (K (.bool (decide (b ≤ a)))) .t) ∧
    (∀ a b K t, binF .add (.string a) (.string b) K t = Need (a.size + b.size < 2 ^ 63) (K (.string (a ++ b))) .t) ∧
    (∀ a b K t, binF .eql (.string a) (.string b) K t = K (.bool (decide (a = b)))) ∧
    (∀ a b K t, binF .neq (.string a) (.string b) K t = K (.bool (!decide (a = b)))) ∧
    (∀ a b K t, binF .lss (.string a) (.string b) K t = K (.bool (sless a b))) := by
  refine ⟨fun _ _ _ _ _ _ => rfl, fun _ _ _ _ _ _ => rfl, fun _ _ _ _ _ _ => rfl, ?_, ?_, fun _ _ _ _ _ _ => rfl, fun _ _ _ _ _ _ => rfl, fun _ _ _ _ _ _ => rfl, fun _ _ _ _ _ _ => rfl, fun _ _ _ _ _ _ => rfl, fun _ _ _ _ _ _ => rfl, fun _ _ _ _ _ _ => rfl, fun _ _ _ _ _ _ => rfl, fun _ _ _ _ _ _ => rfl, fun _ _ _ _ _ _ => rfl, fun _ _ _ _ _ _ => rfl,
    fun _ _ _ _ => rfl, fun _ _ _ _ => rfl, fun _ _ _ _ => rfl, fun _ _ _ _ => rfl⟩
  · intro k a k' b K t; simp [binF, binW, Need, and_assoc]
  · intro k a k' b K t; simp [binF, binW, Need, and_assoc]

def litParts (E : Env) (σ : ASt) (k : Nat) (parts : List (Nat × Operand)) : Prop := ∀ p, p ∈ parts → (σ.ev E p.2).sure = true ∧ (σ.ev E p.2).cells.length = k ∧ (σ.ev E p.2).cells.all AV.one = true

theorem aw8 :
    (∀ (E : Env) σ u i K Q r s t, aopF E σ (some i) K Q (.take u) r s t = Need (u ≠ i) (K { σ with tmps := (i, look σ.tmps u) :: (u, (look σ.tmps u).strip) :: σ.tmps }) .t) ∧
    (∀ (E : Env) σ d x K Q r s t, aopF E σ d K Q (.box x) r s t = Need ((σ.ev E x).sure = true) (K ({ σ with heap := σ.heap ++ [AObj.cells ((σ.ev E x).cells.map AV.strip)] }.putO d (.ref σ.heap.length 0))) .t) ∧
    (∀ (E : Env) σ d zero K Q r s t, aopF E σ d K Q (.alloc zero) r s t = K ({ σ with heap := σ.heap ++ [AObj.cells zero] }.putO d (.ref σ.heap.length 0))) ∧
    (∀ (E : Env) σ d n x y K Q r s t, aopF E σ d K Q (.store n x y) r s t = mPtr (σ.ev E x) (fun id off => mObj σ.heap[id]? (fun l => Need ((σ.ev E y).sure = true ∧ (σ.ev E y).cells.length = n ∧ off + n ≤ l.length ∧ (σ.ev E y).cells.all AV.one = true)
      (K ({ σ with heap := σ.heap.set id (AObj.cells (setMany l off ((σ.ev E y).cells.map AV.strip))) }.putO d .any)) .t) .t) (fun _ => False) .t .t) ∧
    (∀ (E : Env) σ i x K Q r s t, aopF E σ (some i) K Q (.toBytes x) r s t = mStr (σ.ev E x) (fun b => Need (b.size < 2 ^ 62) (K (σ.put i (.sl (.own 1) (b.data.toList.map fun b => .lit (.int .u8 b.toNat))))) .t) .t) ∧
    (∀ (E : Env) σ d k zero len parts K Q r s t, aopF E σ d K Q (.buildSlice false k zero len parts) r s t = Need (parts.map (·.1) = List.range len ∧ len * k ≤ 2 ^ 24 ∧ 0 < k ∧ zero.length = k ∧ litParts E σ k parts) (K (σ.putO d (.sl .full (parts.map fun (p : Nat × Operand) => σ.ev E p.2)))) .t) ∧
    (∀ (E : Env) σ d k zero len parts K Q r s t, aopF E σ d K Q (.buildSlice true k zero len parts) r s t = Need (parts.map (·.1) = List.range len ∧ len * k ≤ 2 ^ 24 ∧ 0 < k ∧ zero.length = k ∧ litParts E σ k parts)
      (K ({ σ with heap := σ.heap ++ [AObj.cells ((flatC (parts.map fun (p : Nat × Operand) => σ.ev E p.2)).map AV.strip)] }.putO d (.vw σ.heap.length 0 len len))) .t) ∧
    (∀ (E : Env) σ d f args K Q r s t, aopF E σ d K Q (.call f args) r s t = mFn (σ.ev E f) (fun fid first caps => EvF E fid (first.map AV.strip ++ args.map (fun x => σ.ev E x.1) ++ caps.map AV.strip) σ.heap (fun r h' => match r with
      | .ret v => K ({ σ with heap := h' }.putO d v.strip)
      | .panic v => Q (.panic v) { σ with heap := h' }) .t) .t) ∧
    (∀ (E : Env) σ d x K Q r s t, aopF E σ d K Q (.panic x) r s t = mIfc (σ.ev E x) (fun u v => Q (.panic (.ifc u v)) σ) .t) ∧
    (∀ (E : Env) σ i k bytes zero x y K Q r s t, aopF E σ (some i) K Q (.append k bytes zero (.tmp x) y) r s t = mSl (look σ.tmps x) (fun c es => mLst (argElems (σ.ev E y)) (fun xs =>
      Need ((x ≠ i ∧ 0 < k ∧ zero.length = k) ∧ (c = .own k ∨ (c = .full ∧ Fit k es)) ∧ Fit k xs ∧ allOne xs ∧ ((2 * (es.length + xs.length) + 192) * bytes ≤ 2 ^ 48 ∧ es.length + xs.length < 2 ^ 62))
        (K { σ with tmps := (i, .sl (.own k) (es ++ xs)) :: (x, (look σ.tmps x).strip) :: σ.tmps }) .t) .t) (fun _ _ _ _ => False) .t .t) ∧
    (∀ (E : Env) σ f args K s t, adopF E σ (.call f args) K s t = mFn (σ.ev E f) (fun fid first caps => EvRF E fid (first.map AV.strip ++ args.map (fun x => σ.ev E x.1) ++ caps.map AV.strip) σ.heap K .t) .t) ∧
    (∀ (E : Env) σ k zero len parts K s t, adopF E σ (.buildSlice false k zero len parts) K s t = Need (parts.map (·.1) = List.range len ∧ len * k ≤ 2 ^ 24 ∧ 0 < k ∧ zero.length = k ∧ litParts E σ k parts) (K (.sl .full (parts.map fun (p : Nat × Operand) => σ.ev E p.2))) .t) := by
  refine ⟨fun _ _ _ _ _ _ _ _ _ => rfl, fun _ _ _ _ _ _ _ _ _ => rfl, fun _ _ _ _ _ _ _ _ _ => rfl, ?_, ?_, fun _ _ _ _ _ _ _ _ _ _ _ _ => rfl, fun _ _ _ _ _ _ _ _ _ _ _ _ => rfl, ?_, ?_, ?_, ?_, fun _ _ _ _ _ _ _ _ _ => rfl⟩
  · intro E σ d n x y K Q r s t; simp only [aopF, aop, mPtr, mObj]; cases ASt.ev E σ x with
    | ref a b => simp only; cases σ.heap[a]? with
      | none => rfl
      | some o => cases o <;> rfl
    | _ => rfl
  · intro E σ i x K Q r s t; simp only [aopF, aop, mStr]; cases ASt.ev E σ x with
    | lit v => cases v <;> rfl
    | _ => rfl
  · intro E σ d f args K Q r s t; simp only [aopF, aop, fnOf, mFn]; cases ASt.ev E σ f with
    | fn f a b => cases f <;> rfl
    | _ => rfl
  · intro E σ d x K Q r s t; simp only [aopF, aop, mIfc]; cases ASt.ev E σ x <;> rfl
  · intro E σ i k bytes zero x y K Q r s t
    simp only [aopF, aop, mSl, mLst, ASt.raw, ASt.taken, isTmp]
    cases hl : look σ.tmps x with
    | sl c es => simp only; cases argElems (ASt.ev E σ y) with
      | none => rfl
      | some xs =>
        simp only [Need, AV.strip]
        apply propext
        constructor
        · rintro ⟨⟨h1, h2, h3⟩, h4, h5, h6, h7, h8⟩; exact ⟨⟨⟨by simpa using h1, h2, h3⟩, h4, h5, h6, h7⟩, h8⟩
        · rintro ⟨⟨⟨h1, h2, h3⟩, h4, h5, h6, h7⟩, h8⟩; exact ⟨⟨by simpa using h1, h2, h3⟩, h4, h5, h6, h7, h8⟩
    | _ => rfl
  · intro E σ f args K s t; simp only [adopF, adop, mFn]; cases ASt.ev E σ f with
    | fn f a b => cases f <;> rfl
    | _ => rfl

theorem aw9 :
    (∀ (E : Env) σ d K Q x r s t, aopF E σ d K Q (.move x) r s t = vF E σ (.move x) (fun v => K (σ.putO d v)) .t .t) ∧
    (∀ (E : Env) σ K x s t, adopF E σ (.move x) K s t = vF E σ (.move x) K .t .t) ∧
    (∀ (E : Env) σ d K Q x y z r s t, aopF E σ d K Q (.pick x y z) r s t = vF E σ (.pick x y z) (fun v => K (σ.putO d v)) .t .t) ∧
    (∀ (E : Env) σ K x y z s t, adopF E σ (.pick x y z) K s t = vF E σ (.pick x y z) K .t .t) ∧
    (∀ (E : Env) σ d K Q x r s t, aopF E σ d K Q (.nilCheck x) r s t = vF E σ (.nilCheck x) (fun v => K (σ.putO d v)) .t .t) ∧
    (∀ (E : Env) σ K x s t, adopF E σ (.nilCheck x) K s t = vF E σ (.nilCheck x) K .t .t) ∧
    (∀ (E : Env) σ d K Q p x y r s t, aopF E σ d K Q (.bin p x y) r s t = vF E σ (.bin p x y) (fun v => K (σ.putO d v)) .t .t) ∧
    (∀ (E : Env) σ K p x y s t, adopF E σ (.bin p x y) K s t = vF E σ (.bin p x y) K .t .t) ∧
    (∀ (E : Env) σ d K Q b x y r s t, aopF E σ d K Q (.eqB b x y) r s t = vF E σ (.eqB b x y) (fun v => K (σ.putO d v)) .t .t) ∧
    (∀ (E : Env) σ K b x y s t, adopF E σ (.eqB b x y) K s t = vF E σ (.eqB b x y) K .t .t) ∧
    (∀ (E : Env) σ d K Q b n x y r s t, aopF E σ d K Q (.eqN b n x y) r s t = vF E σ (.eqN b n x y) (fun v => K (σ.putO d v)) .t .t) ∧
    (∀ (E : Env) σ K b n x y s t, adopF E σ (.eqN b n x y) K s t = vF E σ (.eqN b n x y) K .t .t) ∧
    (∀ (E : Env) σ d K Q p x r s t, aopF E σ d K Q (.un p x) r s t = vF E σ (.un p x) (fun v => K (σ.putO d v)) .t .t) ∧
    (∀ (E : Env) σ K p x s t, adopF E σ (.un p x) K s t = vF E σ (.un p x) K .t .t) ∧
    (∀ (E : Env) σ d K Q p x r s t, aopF E σ d K Q (.conv p x) r s t = vF E σ (.conv p x) (fun v => K (σ.putO d v)) .t .t) ∧
    (∀ (E : Env) σ K p x s t, adopF E σ (.conv p x) K s t = vF E σ (.conv p x) K .t .t) ∧
    (∀ (E : Env) σ d K Q x r s t, aopF E σ d K Q (.convS x) r s t = vF E σ (.convS x) (fun v => K (σ.putO d v)) .t .t) ∧
    (∀ (E : Env) σ K x s t, adopF E σ (.convS x) K s t = vF E σ (.convS x) K .t .t) ∧
    (∀ (E : Env) σ d K Q x r s t, aopF E σ d K Q (.toStr x) r s t = vF E σ (.toStr x) (fun v => K (σ.putO d v)) .t .t) ∧
    (∀ (E : Env) σ K x s t, adopF E σ (.toStr x) K s t = vF E σ (.toStr x) K .t .t) ∧
    (∀ (E : Env) σ d K Q n x lo hi r s t, aopF E σ d K Q (.slice n x lo hi) r s t = vF E σ (.slice n x lo hi) (fun v => K (σ.putO d v)) .t .t) ∧
    (∀ (E : Env) σ K n x lo hi s t, adopF E σ (.slice n x lo hi) K s t = vF E σ (.slice n x lo hi) K .t .t) ∧
    (∀ (E : Env) σ d K Q x lo hi r s t, aopF E σ d K Q (.sliceS x lo hi) r s t = vF E σ (.sliceS x lo hi) (fun v => K (σ.putO d v)) .t .t) ∧
    (∀ (E : Env) σ K x lo hi s t, adopF E σ (.sliceS x lo hi) K s t = vF E σ (.sliceS x lo hi) K .t .t) ∧
    (∀ (E : Env) σ d K Q n x r s t, aopF E σ d K Q (.fieldAddr n x) r s t = vF E σ (.fieldAddr n x) (fun v => K (σ.putO d v)) .t .t) ∧
    (∀ (E : Env) σ K n x s t, adopF E σ (.fieldAddr n x) K s t = vF E σ (.fieldAddr n x) K .t .t) ∧
    (∀ (E : Env) σ d K Q n p x r s t, aopF E σ d K Q (.field n p x) r s t = vF E σ (.field n p x) (fun v => K (σ.putO d v)) .t .t) ∧
    (∀ (E : Env) σ K n p x s t, adopF E σ (.field n p x) K s t = vF E σ (.field n p x) K .t .t) ∧
    (∀ (E : Env) σ d K Q n x y r s t, aopF E σ d K Q (.indexAddr n x y) r s t = vF E σ (.indexAddr n x y) (fun v => K (σ.putO d v)) .t .t) ∧
    (∀ (E : Env) σ K n x y s t, adopF E σ (.indexAddr n x y) K s t = vF E σ (.indexAddr n x y) K .t .t) ∧
    (∀ (E : Env) σ d K Q n m x y r s t, aopF E σ d K Q (.indexAddrArr n m x y) r s t = vF E σ (.indexAddrArr n m x y) (fun v => K (σ.putO d v)) .t .t) ∧
    (∀ (E : Env) σ K n m x y s t, adopF E σ (.indexAddrArr n m x y) K s t = vF E σ (.indexAddrArr n m x y) K .t .t) ∧
    (∀ (E : Env) σ d K Q x y r s t, aopF E σ d K Q (.indexS x y) r s t = vF E σ (.indexS x y) (fun v => K (σ.putO d v)) .t .t) ∧
    (∀ (E : Env) σ K x y s t, adopF E σ (.indexS x y) K s t = vF E σ (.indexS x y) K .t .t) ∧
    (∀ (E : Env) σ d K Q n m p x y r s t, aopF E σ d K Q (.indexArr n m p x y) r s t = vF E σ (.indexArr n m p x y) (fun v => K (σ.putO d v)) .t .t) ∧
    (∀ (E : Env) σ K n m p x y s t, adopF E σ (.indexArr n m p x y) K s t = vF E σ (.indexArr n m p x y) K .t .t) ∧
    (∀ (E : Env) σ d K Q p x r s t, aopF E σ d K Q (.load p x) r s t = vF E σ (.load p x) (fun v => K (σ.putO d v)) .t .t) ∧
    (∀ (E : Env) σ K p x s t, adopF E σ (.load p x) K s t = vF E σ (.load p x) K .t .t) ∧
    (∀ (E : Env) σ d K Q x n r s t, aopF E σ d K Q (.extract x n) r s t = vF E σ (.extract x n) (fun v => K (σ.putO d v)) .t .t) ∧
    (∀ (E : Env) σ K x n s t, adopF E σ (.extract x n) K s t = vF E σ (.extract x n) K .t .t) ∧
    (∀ (E : Env) σ d K Q b x r s t, aopF E σ d K Q (.len b x) r s t = vF E σ (.len b x) (fun v => K (σ.putO d v)) .t .t) ∧
    (∀ (E : Env) σ K b x s t, adopF E σ (.len b x) K s t = vF E σ (.len b x) K .t .t) ∧
    (∀ (E : Env) σ d K Q n x r s t, aopF E σ d K Q (.mkIface n x) r s t = vF E σ (.mkIface n x) (fun v => K (σ.putO d v)) .t .t) ∧
    (∀ (E : Env) σ K n x s t, adopF E σ (.mkIface n x) K s t = vF E σ (.mkIface n x) K .t .t) ∧
    (∀ (E : Env) σ d K Q p l m r s t, aopF E σ d K Q (.mkFunc p l m) r s t = vF E σ (.mkFunc p l m) (fun v => K (σ.putO d v)) .t .t) ∧
    (∀ (E : Env) σ K p l m s t, adopF E σ (.mkFunc p l m) K s t = vF E σ (.mkFunc p l m) K .t .t) ∧
    (∀ (E : Env) σ d K Q p l r s t, aopF E σ d K Q (.build p l) r s t = vF E σ (.build p l) (fun v => K (σ.putO d v)) .t .t) ∧
    (∀ (E : Env) σ K p l s t, adopF E σ (.build p l) K s t = vF E σ (.build p l) K .t .t) :=
  ⟨fun _ _ _ _ _ _ _ _ _ => rfl, fun _ _ _ _ _ _ => rfl, fun _ _ _ _ _ _ _ _ _ _ _ => rfl, fun _ _ _ _ _ _ _ _ => rfl, fun _ _ _ _ _ _ _ _ _ => rfl, fun _ _ _ _ _ _ => rfl, fun _ _ _ _ _ _ _ _ _ _ _ => rfl, fun _ _ _ _ _ _ _ _ => rfl, fun _ _ _ _ _ _ _ _ _ _ _ => rfl, fun _ _ _ _ _ _ _ _ => rfl, fun _ _ _ _ _ _ _ _ _ _ _ _ => rfl, fun _ _ _ _ _ _ _ _ _ => rfl, fun _ _ _ _ _ _ _ _ _ _ => rfl, fun _ _ _ _ _ _ _ => rfl, fun _ _ _ _ _ _ _ _ _ _ => rfl, fun _ _ _ _ _ _ _ => rfl, fun _ _ _ _ _ _ _ _ _ => rfl, fun _ _ _ _ _ _ => rfl, fun _ _ _ _ _ _ _ _ _ => rfl, fun _ _ _ _ _ _ => rfl, fun _ _ _ _ _ _ _ _ _ _ _ _ => rfl, fun _ _ _ _ _ _ _ _ _ => rfl, fun _ _ _ _ _ _ _ _ _ _ _ => rfl, fun _ _ _ _ _ _ _ _ => rfl, fun _ _ _ _ _ _ _ _ _ _ => rfl, fun _ _ _ _ _ _ _ => rfl, fun _ _ _ _ _ _ _ _ _ _ _ => rfl, fun _ _ _ _ _ _ _ _ => rfl, fun _ _ _ _ _ _ _ _ _ _ _ => rfl, fun _ _ _ _ _ _ _ _ => rfl, fun _ _ _ _ _ _ _ _ _ _ _ _ => rfl, fun _ _ _ _ _ _ _ _ _ => rfl, fun _ _ _ _ _ _ _ _ _ _ => rfl, fun _ _ _ _ _ _ _ => rfl, fun _ _ _ _ _ _ _ _ _ _ _ _ _ => rfl, fun _ _ _ _ _ _ _ _ _ _ => rfl, fun _ _ _ _ _ _ _ _ _ _ => rfl, fun _ _ _ _ _ _ _ => rfl, fun _ _ _ _ _ _ _ _ _ _ => rfl, fun _ _ _ _ _ _ _ => rfl, fun _ _ _ _ _ _ _ _ _ _ => rfl, fun _ _ _ _ _ _ _ => rfl, fun _ _ _ _ _ _ _ _ _ _ => rfl, fun _ _ _ _ _ _ _ => rfl, fun _ _ _ _ _ _ _ _ _ _ _ => rfl, fun _ _ _ _ _ _ _ _ => rfl, fun _ _ _ _ _ _ _ _ _ _ => rfl, fun _ _ _ _ _ _ _ => rfl⟩

theorem aw10 :
    (∀ (E : Env) σ mx x y K s t, vF E σ (.minmax mx x y) K s t = mInt (σ.ev E x) (fun k a => mInt (σ.ev E y) (fun _ b => K (.lit (.int k (if mx then (if b > a then b else a) else (if b < a then b else a))))) .t) .t) ∧
    (∀ (E : Env) σ d K Q b x y r s t, aopF E σ d K Q (.minmax b x y) r s t = vF E σ (.minmax b x y) (fun v => K (σ.putO d v)) .t .t) ∧
    (∀ (E : Env) σ K b x y s t, adopF E σ (.minmax b x y) K s t = vF E σ (.minmax b x y) K .t .t) ∧
    (∀ (E : Env) σ d x K Q r s t, aopF E σ d K Q (.conv8 x) r s t = mSl (σ.ev E x) (fun _ _ => False) (fun id off len _ => mObj σ.heap[id]? (fun l => Need (off = 0 ∧ l.length = len ∧ l.all AV.one = true ∧ (∀ av, av ∈ l → av.sure = true ∧ av.cells = [av])) (K ({ σ with heap := σ.heap.set id .gone }.putO d (.sl .unk l))) .t) .t) .t .t) := by
  refine ⟨?_, fun _ _ _ _ _ _ _ _ _ _ _ => rfl, fun _ _ _ _ _ _ _ _ => rfl, ?_⟩
  · intro E σ mx x y K s t; simp only [vF, vop, mInt]; cases ASt.ev E σ x with
    | lit v => cases v <;> first | rfl | (cases ASt.ev E σ y with
      | lit u => cases u <;> rfl
      | _ => rfl)
    | _ => rfl
  · intro E σ d x K Q r s t; simp only [aopF, aop, mSl, mObj]; cases ASt.ev E σ x with
    | vw a b c d => simp only; cases σ.heap[a]? with
      | none => rfl
      | some o => cases o <;> rfl
    | _ => rfl

theorem aw13 :
    (∀ (E : Env) σ x K s t, adopF E σ (.toBytes x) K s t = mStr (σ.ev E x) (fun b => K (.sl .unk (b.data.toList.map fun c => .lit (.int .u8 c.toNat)))) .t) ∧
    (∀ b : Bool, (b == true) = b) ∧ (∀ b : Bool, (b == false) = !b) := by
  refine ⟨?_, fun b => by cases b <;> rfl, fun b => by cases b <;> rfl⟩
  intro E σ x K s t; simp only [adopF, adop, mStr]; cases ASt.ev E σ x with
  | lit v => cases v <;> rfl
  | _ => rfl

theorem aw19 :
    (∀ (E : Env) σ b n x y K s t, vF E σ (.eqS b n x y) K s t = mAgg (σ.ev E x) (fun cs => mAgg (σ.ev E y) (fun ds => mOb (eqCells n cs ds) (fun r => K (.lit (.bool (xor b r)))) .t) .t) .t) ∧
    (∀ (E : Env) σ d K Q b n x y r s t, aopF E σ d K Q (.eqS b n x y) r s t = vF E σ (.eqS b n x y) (fun v => K (σ.putO d v)) .t .t) ∧
    (∀ (E : Env) σ K b n x y s t, adopF E σ (.eqS b n x y) K s t = vF E σ (.eqS b n x y) K .t .t) ∧
    (∀ b K t, mOb (some b) K t = K b) ∧ eqCells [] [] [] = some true ∧
    (∀ ks a as b bs, eqCells (0 :: ks) (.lit (.bool a) :: as) (.lit (.bool b) :: bs) = (eqCells ks as bs).map (decide (a = b) && ·)) ∧
    (∀ ks k a as b bs, eqCells (1 :: ks) (.lit (.int k a) :: as) (.lit (.int k b) :: bs) = (eqCells ks as bs).map (decide (a = b) && ·)) ∧
    (∀ ks a as b bs, eqCells (2 :: ks) (.lit (.string a) :: as) (.lit (.string b) :: bs) = (eqCells ks as bs).map (decide (a = b) && ·)) := by
  refine ⟨?_, fun _ _ _ _ _ _ _ _ _ _ _ _ => rfl, fun _ _ _ _ _ _ _ _ _ => rfl, fun _ _ _ => rfl, rfl, ?_, ?_, ?_⟩
  · intro E σ b n x y K s t; simp only [vF, vop, mAgg, mOb]; cases ASt.ev E σ x with
    | agg cs => cases ASt.ev E σ y with
      | agg ds => cases eqCells n cs ds <;> rfl
      | _ => rfl
    | _ => rfl
  · intro ks a as b bs; simp only [eqCells]; cases eqCells ks as bs <;> rfl
  · intro ks k a as b bs; simp only [eqCells, if_true]; cases eqCells ks as bs <;> rfl
  · intro ks a as b bs; simp only [eqCells]; cases eqCells ks as bs <;> rfl

def mMp (v : AV) (K : Nat → Prop) (K' : Prop) (_ : Tag K) (_ : Tag K') : Prop := match v with | .mp id => K id | .lit (.map none) => K' | _ => False
def mMap (o : Option AObj) (K : KK → List (Value × AV) → Prop) (_ : Tag K) : Prop := match o with | some (.map kk es) => K kk es | _ => False
def mKey (o : Option Value) (K : Value → Prop) (_ : Tag K) : Prop := match o with | some k => K k | none => False
def mGet (o : Option AV) (K : AV → Prop) (K' : Prop) (_ : Tag K) (_ : Tag K') : Prop := match o with | some v => K v | none => K'
theorem mGet.some {o : Option AV} {v : AV} {K : AV → Prop} {K' : Prop} {s t} (h : o = some v) (hk : K v) : mGet o K K' s t := by subst h; exact hk
theorem mGet.none {o : Option AV} {K : AV → Prop} {K' : Prop} {s t} (h : o = none) (hk : K') : mGet o K K' s t := by subst h; exact hk

theorem aw22 :
    (∀ (E : Env) σ ok kk zero x i K s t, vF E σ (.lookup ok kk zero x i) K s t = mKey (avKey kk (σ.ev E i)) (fun key => mMp (σ.ev E x)
      (fun id => mMap σ.heap[id]? (fun kk' es => Need (kk' = kk) (mGet (mget es key) (fun v => K (if ok then .tup [v, .lit (.bool true)] else v)) (K (if ok then .tup [zero, .lit (.bool false)] else zero)) .t .t) .t) .t)
      (K (if ok then .tup [zero, .lit (.bool false)] else zero)) .t .t) .t) ∧
    (∀ (E : Env) σ x K s t, vF E σ (.lenM x) K s t = mMp (σ.ev E x) (fun id => mMap σ.heap[id]? (fun _ es => K (.lit (.int .i64 es.length))) .t) False .t .t) ∧
    (∀ (E : Env) σ d kk K Q r s t, aopF E σ d K Q (.makeMap kk) r s t = K ({ σ with heap := σ.heap ++ [AObj.map kk []] }.putO d (.mp σ.heap.length))) ∧
    (∀ (E : Env) σ d kk m k v K Q r s t, aopF E σ d K Q (.mapSet kk m k v) r s t = mKey (avKey kk (σ.ev E k)) (fun key => mMp (σ.ev E m) (fun id => mMap σ.heap[id]? (fun kk' es => Need (kk' = kk)
      (K ({ σ with heap := σ.heap.set id (AObj.map kk (mput es key (σ.ev E v).strip)) }.putO d .any)) .t) .t) False .t .t) .t) ∧
    (∀ (E : Env) σ d K Q ok kk zero x i r s t, aopF E σ d K Q (.lookup ok kk zero x i) r s t = vF E σ (.lookup ok kk zero x i) (fun v => K (σ.putO d v)) .t .t) ∧
    (∀ (E : Env) σ K ok kk zero x i s t, adopF E σ (.lookup ok kk zero x i) K s t = vF E σ (.lookup ok kk zero x i) K .t .t) ∧
    (∀ (E : Env) σ d K Q x r s t, aopF E σ d K Q (.lenM x) r s t = vF E σ (.lenM x) (fun v => K (σ.putO d v)) .t .t) ∧
    (∀ (E : Env) σ K x s t, adopF E σ (.lenM x) K s t = vF E σ (.lenM x) K .t .t) ∧
    (∀ v K t, mKey (some v) K t = K v) ∧ (∀ id K K' s t, mMp (.mp id) K K' s t = K id) ∧ (∀ K K' s t, mMp (.lit (.map none)) K K' s t = K') ∧ (∀ kk es K t, mMap (some (.map kk es)) K t = K kk es) ∧
    (∀ s, avKey .str (.lit (.string s)) = some (.string s)) ∧ (∀ k n, avKey (.int k) (.lit (.int k n)) = some (.int k n)) ∧ (∀ a b, avKey (.ints 2) (.agg [.lit (.int .i64 a), .lit (.int .i64 b)]) = some (.agg #[.int .i64 a, .int .i64 b])) ∧
    (∀ a, AV.strip (.mp a) = .mp a) ∧ (∀ a, AV.cells (.mp a) = [.mp a]) ∧ (∀ a, AV.sure (.mp a) = true) ∧ (∀ a, AV.one (.mp a) = true) ∧ (∀ kk : KK, (kk = kk) = True) := by
  refine ⟨?_, ?_, fun _ _ _ _ _ _ _ _ _ => rfl, ?_, fun _ _ _ _ _ _ _ _ _ _ _ _ _ => rfl, fun _ _ _ _ _ _ _ _ _ _ => rfl, fun _ _ _ _ _ _ _ _ _ => rfl, fun _ _ _ _ _ _ => rfl, fun _ _ _ => rfl, fun _ _ _ _ _ => rfl, fun _ _ _ _ => rfl, fun _ _ _ _ => rfl, fun _ => rfl, fun k n => by simp [avKey], fun _ _ => rfl, fun _ => rfl, fun _ => rfl, fun _ => rfl, fun _ => rfl, fun _ => by simp⟩
  · intro E σ ok kk zero x i K s t
    simp only [vF, vop, mKey, mMp]
    cases avKey kk (ASt.ev E σ i) with
    | none => cases ASt.ev E σ x with
      | lit v => cases v <;> first | rfl | (rename_i r; cases r <;> rfl)
      | _ => rfl
    | some key => cases ASt.ev E σ x with
      | mp id =>
        simp only [mMap]
        cases σ.heap[id]? with
        | none => rfl
        | some o => cases o with
          | map kk' es => simp only [Need, mGet]; cases mget es key <;> rfl
          | _ => rfl
      | lit v => cases v <;> first | rfl | (rename_i r; cases r <;> rfl)
      | _ => rfl
  · intro E σ x K s t
    simp only [vF, vop, mMp]
    cases ASt.ev E σ x with
    | mp id =>
      simp only [mMap]
      cases σ.heap[id]? with
      | none => rfl
      | some o => cases o <;> rfl
    | lit v => cases v <;> first | rfl | (rename_i r; cases r <;> rfl)
    | _ => rfl
  · intro E σ d kk m k v K Q r s t
    simp only [aopF, aop, mKey, mMp]
    cases avKey kk (ASt.ev E σ k) with
    | none => cases ASt.ev E σ m with
      | lit v => cases v <;> first | rfl | (rename_i r; cases r <;> rfl)
      | _ => rfl
    | some key => cases ASt.ev E σ m with
      | mp id =>
        simp only [mMap]
        cases σ.heap[id]? with
        | none => rfl
        | some o => cases o <;> rfl
      | lit v => cases v <;> first | rfl | (rename_i r; cases r <;> rfl)
      | _ => rfl

def mCap (v : AV) (K : Nat → Prop) (_ : Tag K) : Prop := match v with | .vw _ _ _ cap => K cap | .sl .full es => K es.length | _ => False
def mAss (v : AV) (t : TypeId) (K : AV → Prop) (K' : Prop) (_ : Tag K) (_ : Tag K') : Prop := match v with | .ifc t' u => if t' = t then K u.strip else K' | .lit .nilIface => K' | _ => False
def mSlO (v : AV) (K : List AV → Prop) (K' : Nat → Nat → Nat → Nat → Prop) (_ : Tag K) (_ : Tag K') : Prop := match v with | .sl .full es => K es | .vw a b c d => K' a b c d | _ => False
def AppF (fits : Prop) (A : Prop) (N : Nat → Prop) (n : Nat) (_ : Tag A) (_ : Tag N) : Prop := (fits → A) ∧ (¬ fits → ∀ cap', n ≤ cap' → N cap')
theorem AppF.mk {fits A : Prop} {N : Nat → Prop} {n : Nat} {s t} (h : fits → A) (h' : ¬ fits → ∀ cap', n ≤ cap' → N cap') : AppF fits A N n s t := ⟨h, h'⟩

def AppO (k b : Nat) (zero : List AV) (h : List AObj) (s : AV) (xs : List AV) (K : List AObj → AV → Prop) (_ : Tag K) : Prop :=
  mSlO s
      (fun es => Need (0 < k ∧ zero.length = k ∧ Fit k es ∧ Fit k xs ∧ allOne xs ∧ (2 * (es.length + xs.length) + 192) * b ≤ 2 ^ 48 ∧ es.length + xs.length < 2 ^ 62)
        (AppF (xs = []) (es = [] ∧ K h (.sl .full [])) (fun cap' => K (h ++ [AObj.cells ((flatC es).map AV.strip ++ (flatC xs).map AV.strip ++ zerosL (cap' - (es.length + xs.length)) zero)]) (.vw h.length 0 (es.length + xs.length) cap')) (es.length + xs.length) .t .t) .t)
      (fun id off len cap => mObj h[id]? (fun l => Need (0 < k ∧ zero.length = k ∧ Fit k xs ∧ allOne xs ∧ off + len * k ≤ l.length ∧ (2 * (len + xs.length) + 192) * b ≤ 2 ^ 48 ∧ len + xs.length < 2 ^ 62)
        (AppF (len + xs.length ≤ cap) (Need (off + (len + xs.length) * k ≤ l.length) (K (h.set id (AObj.cells (setMany l (off + len * k) ((flatC xs).map AV.strip)))) (.vw id off (len + xs.length) cap)) .t)
          (fun cap' => K (h ++ [AObj.cells (((l.drop off).take (len * k)).map AV.strip ++ (flatC xs).map AV.strip ++ zerosL (cap' - (len + xs.length)) zero)]) (.vw h.length 0 (len + xs.length) cap')) (len + xs.length) .t .t) .t) .t) .t .t

theorem aw23 :
    (∀ (E : Env) σ k x lo hi mx K s t, vF E σ (.slice3 k x lo (some hi) mx) K s t = mSl (σ.ev E x) (fun _ es => mBnd (lo.map (σ.ev E)) 0 (fun l => mInt (σ.ev E hi) (fun _ u => mInt (σ.ev E mx) (fun _ m =>
      Need ((0 ≤ l ∧ l ≤ u ∧ u = m ∧ m ≤ es.length) ∧ (∀ e, e ∈ es → e.sure = true ∧ e.cells.length = k)) (K (.sl .full ((es.take u.toNat).drop l.toNat))) .t) .t) .t) .t) (fun _ _ _ _ => False) .t .t) ∧
    (∀ (E : Env) σ x K s t, vF E σ (.capS x) K s t = mCap (σ.ev E x) (fun c => K (.lit (.int .i64 c))) .t) ∧
    (∀ (E : Env) σ u z x K s t, vF E σ (.typeAssert u z x true) K s t = mAss (σ.ev E x) u (fun v => K (.tup [v, .lit (.bool true)])) (K (.tup [z, .lit (.bool false)])) .t .t) ∧
    (∀ (E : Env) σ u z x K s t, vF E σ (.typeAssert u z x false) K s t = mAss (σ.ev E x) u K False .t .t) ∧
    (∀ (E : Env) σ d K Q k x lo hi mx r s t, aopF E σ d K Q (.slice3 k x lo hi mx) r s t = vF E σ (.slice3 k x lo hi mx) (fun v => K (σ.putO d v)) .t .t) ∧
    (∀ (E : Env) σ K k x lo hi mx s t, adopF E σ (.slice3 k x lo hi mx) K s t = vF E σ (.slice3 k x lo hi mx) K .t .t) ∧
    (∀ (E : Env) σ d K Q x r s t, aopF E σ d K Q (.capS x) r s t = vF E σ (.capS x) (fun v => K (σ.putO d v)) .t .t) ∧
    (∀ (E : Env) σ K x s t, adopF E σ (.capS x) K s t = vF E σ (.capS x) K .t .t) ∧
    (∀ (E : Env) σ d K Q u z x ok r s t, aopF E σ d K Q (.typeAssert u z x ok) r s t = vF E σ (.typeAssert u z x ok) (fun v => K (σ.putO d v)) .t .t) ∧
    (∀ (E : Env) σ K u z x ok s t, adopF E σ (.typeAssert u z x ok) K s t = vF E σ (.typeAssert u z x ok) K .t .t) ∧
    (∀ (E : Env) σ d k b zero x y K Q r s t, aopF E σ d K Q (.appendO k b zero x y) r s t = mLst (argElems (σ.ev E y)) (fun xs => AppO k b zero σ.heap (σ.ev E x) xs (fun h' v => K ({ σ with heap := h' }.putO d v)) .t) .t) ∧
    (∀ (E : Env) σ d o k b zero x y K Q r s t, aopF E σ d K Q (.makeSlice o k b zero x y) r s t = mInt (σ.ev E x) (fun _ l => mInt (σ.ev E y) (fun _ c => Need (0 ≤ l ∧ l ≤ c ∧ 0 < k ∧ zero.length = k ∧ (b : Int) * c ≤ 2 ^ 48 ∧ c < 2 ^ 62)
      (K ({ σ with heap := σ.heap ++ [AObj.cells (zerosL c.toNat zero)] }.putO d (.vw σ.heap.length 0 l.toNat c.toNat))) .t) .t) .t) ∧
    (∀ (E : Env) σ d k zero x K Q r s t, aopF E σ d K Q (.clearS k zero x) r s t = mSl (σ.ev E x) (fun _ _ => False) (fun id off len _ => mObj σ.heap[id]? (fun l => Need (zero.length = k ∧ off + len * k ≤ l.length ∧ zero.all AV.one = true)
      (K ({ σ with heap := σ.heap.set id (AObj.cells (setMany l off (zerosL len zero))) }.putO d (.tup []))) .t) .t) .t .t) ∧
    (∀ a b c d K t, mCap (.vw a b c d) K t = K d) ∧ (∀ es K t, mCap (.sl .full es) K t = K es.length) ∧
    (∀ t v K K' s r, mAss (.ifc t v) t K K' s r = K v.strip) ∧ (∀ t K K' s r, mAss (.lit .nilIface) t K K' s r = K') ∧
    (∀ a b c d K K' s t, mSlO (.vw a b c d) K K' s t = K' a b c d) ∧ (∀ es K K' s t, mSlO (.sl .full es) K K' s t = K es) := by
  refine ⟨?_, ?_, ?_, ?_, fun _ _ _ _ _ _ _ _ _ _ _ _ _ => rfl, fun _ _ _ _ _ _ _ _ _ _ => rfl, fun _ _ _ _ _ _ _ _ _ => rfl, fun _ _ _ _ _ _ => rfl, fun _ _ _ _ _ _ _ _ _ _ _ _ => rfl, fun _ _ _ _ _ _ _ _ _ => rfl, ?_, ?_, ?_, fun _ _ _ _ _ _ => rfl, fun _ _ _ => rfl, fun t v K K' s r => by simp [mAss], fun _ _ _ _ _ => rfl, fun _ _ _ _ _ _ _ _ => rfl, fun _ _ _ _ _ => rfl⟩
  · intro E σ k x lo hi mx K s t
    simp only [vF, vop, mSl]
    cases ASt.ev E σ x with
    | sl c es =>
      simp only
      apply propext
      rw [bnd_iff]
      constructor
      · rintro ⟨l, u, m, h1, ⟨k1, h2⟩, ⟨k2, h3⟩, h4, h5, h6, h7, h8, h9⟩
        exact ⟨l, (by cases lo <;> exact h1), by simp only [mInt, h2, h3]; exact ⟨⟨⟨h4, h5, h6, h7⟩, h8⟩, h9⟩⟩
      · rintro ⟨l, h1, h⟩
        simp only [mInt] at h
        split at h
        · rename_i k1 u h2
          split at h
          · rename_i k2 m h3
            obtain ⟨⟨⟨h4, h5, h6, h7⟩, h8⟩, h9⟩ := h
            exact ⟨l, u, m, (by cases lo <;> exact h1), ⟨k1, h2⟩, ⟨k2, h3⟩, h4, h5, h6, h7, h8, h9⟩
          · exact h.elim
        · exact h.elim
    | _ => rfl
  · intro E σ x K s t
    simp only [vF, vop, mCap]
    cases ASt.ev E σ x with
    | sl c es => cases c <;> rfl
    | _ => rfl
  · intro E σ u z x K s t
    simp only [vF, vop, mAss]
    cases ASt.ev E σ x with
    | ifc a b => simp only; split <;> simp
    | lit v => cases v <;> simp
    | _ => rfl
  · intro E σ u z x K s t
    simp only [vF, vop, mAss]
    cases ASt.ev E σ x with
    | ifc a b => simp only; split <;> simp
    | lit v => cases v <;> simp
    | _ => rfl
  · intro E σ d k b zero x y K Q r s t
    simp only [aopF, aop, mLst, AppO, mSlO]
    cases argElems (ASt.ev E σ y) with
    | none => cases ASt.ev E σ x with
      | sl c es => cases c <;> rfl
      | _ => rfl
    | some xs => cases ASt.ev E σ x with
      | sl c es => cases c <;> rfl
      | vw a b c d =>
        simp only [mObj]
        cases σ.heap[a]? with
        | none => rfl
        | some o => cases o with
          | cells l => simp only [Need, AppF, Nat.not_le]
          | _ => rfl
      | _ => rfl
  · intro E σ d o k b zero x y K Q r s t
    simp only [aopF, aop, mInt]
    cases ASt.ev E σ x with
    | lit v => cases v with
      | int k1 l => cases ASt.ev E σ y with
        | lit u => cases u <;> rfl
        | _ => rfl
      | _ => rfl
    | _ => rfl
  · intro E σ d k zero x K Q r s t
    simp only [aopF, aop, mSl, mObj]
    cases ASt.ev E σ x with
    | vw a b c d => simp only; cases σ.heap[a]? with
      | none => rfl
      | some o => cases o <;> rfl
    | _ => rfl

def mSlE (v : AV) (K : Prop) (_ : Tag K) : Prop := match v with | .sl .full [] => K | _ => False
def mIsNil (v : AV) (K : Bool → Prop) (n : Bool) (_ : Tag K) : Prop := match v with | .vw _ _ _ _ => K n | .sl _ [] => ∀ b, K b | .sl _ (_ :: _) => K n | _ => False
def ZerF (m : Int) (A : Prop) (N : Nat → Prop) (_ : Tag A) (_ : Tag N) : Prop := (m = 0 → A) ∧ (0 < m → ∀ cap', m.toNat ≤ cap' → N cap')
theorem ZerF.mk {m : Int} {A : Prop} {N : Nat → Prop} {s t} (h : m = 0 → A) (h' : 0 < m → ∀ cap', m.toNat ≤ cap' → N cap') : ZerF m A N s t := ⟨h, h'⟩
theorem aw24 :
    (∀ (E : Env) σ d k b zero x y K Q r s t, aopF E σ d K Q (.appendZ k b zero x y) r s t = mInt (σ.ev E y) (fun _ m => mSlE (σ.ev E x) (Need (0 ≤ m ∧ 0 < k ∧ zero.length = k ∧ (2 * m + 192) * (b : Int) ≤ 2 ^ 48 ∧ m < 2 ^ 62)
      (ZerF m (K (σ.putO d (.sl .full []))) (fun cap' => K ({ σ with heap := σ.heap ++ [AObj.cells (zerosL m.toNat zero ++ zerosL (cap' - m.toNat) zero)] }.putO d (.vw σ.heap.length 0 m.toNat cap'))) .t .t) .t) .t) .t) ∧
    (∀ (E : Env) σ d n x K Q r s t, aopF E σ d K Q (.eqNil n x) r s t = mIsNil (σ.ev E x) (fun b => K (σ.putO d (.lit (.bool b)))) n .t) ∧
    (∀ K t, mSlE (.sl .full []) K t = K) ∧ (∀ a b c d K n t, mIsNil (.vw a b c d) K n t = K n) ∧ (∀ c a l K n t, mIsNil (.sl c (a :: l)) K n t = K n) ∧ (∀ c K n t, mIsNil (.sl c []) K n t = ∀ b, K b) ∧
    (∀ es, capAft .unk es = .unk) ∧ (∀ k es, capAft (.own k) es = .unk) ∧ (capAft .full [] = .full) ∧ (∀ a l, capAft .full (a :: l) = .unk) ∧
    (∀ a b, offAt a b 0 0 = a) ∧ (∀ a b c, offAt a b (c + 1) 0 = a) := by
  refine ⟨?_, ?_, fun _ _ => rfl, fun _ _ _ _ _ _ _ => rfl, fun _ _ _ _ _ _ => rfl, fun _ _ _ _ => rfl, fun _ => rfl, fun _ _ => rfl, rfl, fun _ _ => rfl, fun _ _ => rfl, fun a b c => by simp [offAt]⟩
  · intro E σ d k b zero x y K Q r s t
    simp only [aopF, aop, mInt, mSlE]
    cases ASt.ev E σ x with
    | sl c es => cases c with
      | full => cases es with
        | nil => cases ASt.ev E σ y with
          | lit v => cases v <;> rfl
          | _ => rfl
        | cons a l => cases ASt.ev E σ y with
          | lit v => cases v <;> rfl
          | _ => rfl
      | _ => cases ASt.ev E σ y with
          | lit v => cases v <;> rfl
          | _ => rfl
    | _ => cases ASt.ev E σ y with
          | lit v => cases v <;> rfl
          | _ => rfl
  · intro E σ d n x K Q r s t
    simp only [aopF, aop, mIsNil]
    cases ASt.ev E σ x with
    | sl c es => cases es <;> rfl
    | _ => rfl
theorem offAt0 (a b c : Nat) : offAt a b c 0 = a := by unfold offAt; split <;> simp

def afltF (E : Env) (as : List AOper) (fl : List Bool) (σ : ASt) (K : List AV → Prop) (_ : Tag as) (_ : Tag fl) (_ : Tag K) : Prop := aflt E as fl σ K
def achF (E : Env) (σ : ASt) (as : List AOper) (fl : List Bool) (v0 : List AV) (K : ASt → Prop) (es : List Nat) (vs : List AV) (h : List AObj) (_ : Tag as) (_ : Tag fl) (_ : Tag K) : Prop := ach E σ as fl v0 K es vs h
def eopF (E : Env) (σ : ASt) (o : AOp) (K : List AObj → AV → Prop) (_ : Tag K) : Prop := eop E σ.heap (σ.ev E) o K
def mOp (o : Option AOper) (K : AOp → Prop) (_ : Tag K) : Prop := match o with | some o => o.guard = none ∧ K o.op | none => False
def AndF (A B : Prop) (_ : Tag B) : Prop := A ∧ B
def SameF (a b : List AV) : Prop := a = b
theorem AndF.mk {A B : Prop} {t} (h : A) (h' : B) : AndF A B t := ⟨h, h'⟩
def preA (σ : ASt) : List AOper → List AV → ASt
  | [], _ => σ
  | _, [] => σ
  | o :: as, v :: vs => preA (σ.putO o.dst v) as vs
theorem preA_eq : ∀ (as : List AOper) (σ : ASt) (vs : List AV), pre σ as vs as.length = preA σ as vs
  | [], σ, vs => by cases vs <;> rfl
  | o :: as, σ, [] => rfl
  | o :: as, σ, v :: vs => by simp only [List.length_cons, pre, preA]; exact preA_eq as _ vs
theorem pre_heap : ∀ (as : List AOper) (σ : ASt) (vs : List AV) (i : Nat), (pre σ as vs i).heap = σ.heap
  | as, σ, vs, 0 => by cases as <;> cases vs <;> rfl
  | [], σ, vs, i + 1 => by cases vs <;> rfl
  | o :: as, σ, [], i + 1 => rfl
  | o :: as, σ, v :: vs, i + 1 => by simp only [pre]; rw [pre_heap as, heap_putO]
theorem aw25 :
    (∀ (E : Env) as fl Q s t σ, awpF E (.eff as fl) Q s t σ = afltF E as fl σ (fun v0 => achF E σ as fl v0 (Q .normal) (effIdx fl 0) v0 σ.heap .t .t .t) .t .t .t) ∧
    (∀ (E : Env) σ K r s t, afltF E [] [] σ K r s t = K []) ∧
    (∀ (E : Env) d op g as fl σ K r s t, afltF E (⟨d, op, g⟩ :: as) (true :: fl) σ K r s t = afltF E as fl (σ.putO d .any) (fun vs => K (.any :: vs)) .t .t .t) ∧
    (∀ (E : Env) d op as fl σ K r s t, afltF E (⟨d, op, none⟩ :: as) (false :: fl) σ K r s t = adopF E σ op (fun v => afltF E as fl (σ.putO d v) (fun vs => K (v :: vs)) .t .t .t) .t .t) ∧
    (∀ (E : Env) d op u want as fl σ K r s t, afltF E (⟨d, op, some (u, want)⟩ :: as) (false :: fl) σ K r s t = mGd (guardIs (look σ.tmps u))
      (fun b => BrF (b == want) (adopF E σ op (fun v => afltF E as fl (σ.putO d v) (fun vs => K (v :: vs)) .t .t .t) .t .t) (afltF E as fl (σ.putO d (.lit undef)) (fun vs => K (.lit undef :: vs)) .t .t .t) .t .t)
      (afltF E as fl (σ.putO d (.lit undef)) (fun vs => K (.lit undef :: vs)) .t .t .t) .t .t) ∧
    (∀ (E : Env) σ as fl v0 K vs h r s t, achF E σ as fl v0 K [] vs h r s t = K (preA ⟨σ.tmps, h⟩ as vs)) ∧
    (∀ (E : Env) σ as fl v0 K e es vs h r s t, achF E σ as fl v0 K (e :: es) vs h r s t = mOp as[e]? (fun op => eopF E (pre ⟨σ.tmps, h⟩ as vs e) op (fun h' v => AndF (afltF E as fl ⟨σ.tmps, h'⟩ (fun vs' => SameF vs' v0) .t .t .t)
      (achF E σ as fl v0 K es (vs.set e v) h' .t .t .t) .t) .t) .t) ∧
    (∀ d op K t, mOp (some ⟨d, op, none⟩) K t = K op) ∧
    (∀ (E : Env) σ f args K t, eopF E σ (.call f args) K t = mFn (σ.ev E f) (fun fid first caps => EvF E fid (first.map AV.strip ++ args.map (fun x => σ.ev E x.1) ++ caps.map AV.strip) σ.heap (fun r h' => match r with | .ret v => K h' v.strip | .panic _ => False) .t) .t) ∧
    (∀ (E : Env) σ k b zero x y K t, eopF E σ (.appendO k b zero x y) K t = mLst (argElems (σ.ev E y)) (fun xs => AppO k b zero σ.heap (σ.ev E x) xs K .t) .t) ∧
    (∀ B t, AndF True B t = B) ∧ (∀ a, SameF a a = True) ∧
    (∀ σ as vs, pre σ as vs 0 = σ) ∧ (∀ σ d op g as v vs i, pre σ (⟨d, op, g⟩ :: as) (v :: vs) (i + 1) = pre (σ.putO d v) as vs i) ∧
    (∀ σ vs, preA σ [] vs = σ) ∧ (∀ σ d op g as v vs, preA σ (⟨d, op, g⟩ :: as) (v :: vs) = preA (σ.putO d v) as vs) ∧
    (∀ i, effIdx [] i = []) ∧ (∀ fl i, effIdx (true :: fl) i = i :: effIdx fl (i + 1)) ∧ (∀ fl i, effIdx (false :: fl) i = effIdx fl (i + 1)) ∧
    (∀ (v : AV) vs x, (v :: vs).set 0 x = x :: vs) ∧ (∀ (v : AV) vs i x, (v :: vs).set (i + 1) x = v :: vs.set i x) := by
  refine ⟨fun _ _ _ _ _ _ _ => rfl, fun _ _ _ _ _ _ => rfl, fun _ _ _ _ _ _ _ _ _ _ _ => rfl, fun _ _ _ _ _ _ _ _ _ _ => rfl, ?_, ?_, ?_, ?_, ?_, ?_, ?_, ?_, ?_, fun _ _ _ _ _ _ _ _ => rfl, fun _ _ => rfl, fun _ _ _ _ _ _ _ => rfl, fun _ => rfl, fun _ _ => rfl, fun _ _ => rfl, fun _ _ _ => rfl, fun _ _ _ _ => rfl⟩
  · intro E d op u want as fl σ K r s t
    simp only [afltF, aflt, mGd]
    cases guardIs (look σ.tmps u) <;> rfl
  · intro E σ as fl v0 K vs h r s t
    simp only [achF, ach, preA_eq]
  · intro E σ as fl v0 K e es vs h r s t
    simp only [achF, ach, mOp]
    cases as[e]? with
    | none => rfl
    | some o => simp only [eopF, pre_heap]; rfl
  · intro d op K t; simp [mOp]
  · intro E σ f args K t
    simp only [eopF, eop, mFn]
    cases ASt.ev E σ f with
    | fn f a b => cases f <;> rfl
    | _ => rfl
  · intro E σ k b zero x y K t
    simp only [eopF, eop, mLst, AppO, mSlO]
    cases argElems (ASt.ev E σ y) with
    | none => cases ASt.ev E σ x with
      | sl c es => cases c <;> rfl
      | _ => rfl
    | some xs => cases ASt.ev E σ x with
      | sl c es => cases c <;> rfl
      | vw a b c d =>
        simp only [mObj]
        cases σ.heap[a]? with
        | none => rfl
        | some o => cases o with
          | cells l => simp only [Need, AppF, Nat.not_le]
          | _ => rfl
      | _ => rfl
  · intro B t; simp [AndF]
  · intro a; simp [SameF]
  · intro σ as vs; cases as <;> cases vs <;> rfl

theorem awApp :
    (∀ k b zero h es xs K t, AppO k b zero h (.sl .full es) xs K t = Need (0 < k ∧ zero.length = k ∧ Fit k es ∧ Fit k xs ∧ allOne xs ∧ (2 * (es.length + xs.length) + 192) * b ≤ 2 ^ 48 ∧ es.length + xs.length < 2 ^ 62)
        (AppF (xs = []) (es = [] ∧ K h (.sl .full [])) (fun cap' => K (h ++ [AObj.cells ((flatC es).map AV.strip ++ (flatC xs).map AV.strip ++ zerosL (cap' - (es.length + xs.length)) zero)]) (.vw h.length 0 (es.length + xs.length) cap')) (es.length + xs.length) .t .t) .t) ∧
    (∀ k b zero h id off len cap xs K t, AppO k b zero h (.vw id off len cap) xs K t = mObj h[id]? (fun l => Need (0 < k ∧ zero.length = k ∧ Fit k xs ∧ allOne xs ∧ off + len * k ≤ l.length ∧ (2 * (len + xs.length) + 192) * b ≤ 2 ^ 48 ∧ len + xs.length < 2 ^ 62)
        (AppF (len + xs.length ≤ cap) (Need (off + (len + xs.length) * k ≤ l.length) (K (h.set id (AObj.cells (setMany l (off + len * k) ((flatC xs).map AV.strip)))) (.vw id off (len + xs.length) cap)) .t)
          (fun cap' => K (h ++ [AObj.cells (((l.drop off).take (len * k)).map AV.strip ++ (flatC xs).map AV.strip ++ zerosL (cap' - (len + xs.length)) zero)]) (.vw h.length 0 (len + xs.length) cap')) (len + xs.length) .t .t) .t) .t) :=
  ⟨fun _ _ _ _ _ _ _ _ => rfl, fun _ _ _ _ _ _ _ _ _ _ _ => rfl⟩

end Go.Abs
