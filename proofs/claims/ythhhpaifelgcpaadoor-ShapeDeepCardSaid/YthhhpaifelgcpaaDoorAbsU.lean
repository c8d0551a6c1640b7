/- Reckoning with states: bundles of equations for simp. What is still to come is a 'fixed' argument (a later argument's type names it): simp does not look into it. -/
import Derived.Test.YthhhpaifelgcpaaDoorAbsQ
set_option linter.all false
namespace Go.Abs
open Go Go.RowKit

inductive Tag {α : Type} (a : α) : Type where
  | t

def BrF (b : Bool) (A B : Prop) (_ : Tag A) (_ : Tag B) : Prop := (b = true → A) ∧ (b = false → B)
def Need (P : Prop) (A : Prop) (_ : Tag A) : Prop := P ∧ A
def awpF (E : Env) (c : ACode) (Q : AEx → ASt → Prop) (_ : Tag c) (_ : Tag Q) (σ : ASt) : Prop := awp E c Q σ
def aopsF (E : Env) (K : ASt → Prop) (Q : AEx → ASt → Prop) (ops : List AOper) (_ : Tag K) (_ : Tag Q) (_ : Tag ops) (σ : ASt) : Prop := aops E K Q ops σ
def adrawF (E : Env) (K : ASt → Prop) (ops : List AOper) (_ : Tag K) (_ : Tag ops) (σ : ASt) : Prop := adraw E K ops σ
def aopF (E : Env) (σ : ASt) (d : Option Nat) (K : ASt → Prop) (Q : AEx → ASt → Prop) (o : AOp) (_ : Tag K) (_ : Tag Q) (_ : Tag o) : Prop := aop E σ d K Q o
def adopF (E : Env) (σ : ASt) (o : AOp) (K : AV → Prop) (_ : Tag o) (_ : Tag K) : Prop := adop E σ.heap (σ.ev E) o K
def vF (E : Env) (σ : ASt) (o : AOp) (K : AV → Prop) (_ : Tag o) (_ : Tag K) : Prop := vop σ.heap (σ.ev E) o K
def binF (op : BinOp) (u v : Value) (K : Value → Prop) (_ : Tag K) : Prop := binW op u v K
def EvF (E : Env) (f : FuncId) (args : List AV) (h : List AObj) (Q : ARes → List AObj → Prop) (_ : Tag Q) : Prop := Ev E f args h Q
def EvRF (E : Env) (f : FuncId) (args : List AV) (h : List AObj) (K : AV → Prop) (_ : Tag K) : Prop := ∃ v, EvR E f args h v ∧ K v.strip
def rvsF (σ : ASt) (rs : List ARV) (K : List AV → Prop) (_ : Tag K) : Prop := rvs σ rs K
def LoopF (E : Env) (c : ACode) (Q : AEx → ASt → Prop) (_ : Tag c) (_ : Tag Q) (σ : ASt) : Prop := awp E (.loop c) Q σ

/-! ### Taking values apart -/
def mBool (v : AV) (K : Bool → Prop) (_ : Tag K) : Prop := match v with | .lit (.bool b) => K b | _ => False
def mInt (v : AV) (K : IntKind → Int → Prop) (_ : Tag K) : Prop := match v with | .lit (.int k n) => K k n | _ => False
def mStr (v : AV) (K : ByteArray → Prop) (_ : Tag K) : Prop := match v with | .lit (.string s) => K s | _ => False
def mLit (v : AV) (K : Value → Prop) (_ : Tag K) : Prop := match v with | .lit u => K u | _ => False
def mAgg (v : AV) (K : List AV → Prop) (_ : Tag K) : Prop := match v with | .agg u => K u | _ => False
def mTup (v : AV) (K : List AV → Prop) (_ : Tag K) : Prop := match v with | .tup u => K u | _ => False
def mFn (v : AV) (K : FuncId → List AV → List AV → Prop) (_ : Tag K) : Prop := match v with | .fn (.func f) a b => K f a b | _ => False
def mIfc (v : AV) (K : TypeId → AV → Prop) (_ : Tag K) : Prop := match v with | .ifc t u => K t u | _ => False
def mSl (v : AV) (K : Cap → List AV → Prop) (K' : Nat → Nat → Nat → Nat → Prop) (_ : Tag K) (_ : Tag K') : Prop := match v with | .sl c es => K c es | .vw a b c d => K' a b c d | _ => False
def mPtr (v : AV) (K : Nat → Nat → Prop) (K' : List AV → Prop) (_ : Tag K) (_ : Tag K') : Prop := match v with | .ref a b => K a b | .cp cs => K' cs | _ => False
def mOpt (v : Option AV) (K : AV → Prop) (_ : Tag K) : Prop := match v with | some u => K u | none => False
def mObj (v : Option AObj) (K : List AV → Prop) (_ : Tag K) : Prop := match v with | some (.cells u) => K u | _ => False
def mLst (v : Option (List AV)) (K : List AV → Prop) (_ : Tag K) : Prop := match v with | some u => K u | none => False
def mByt (v : Option (List UInt8)) (K : List UInt8 → Prop) (_ : Tag K) : Prop := match v with | some u => K u | none => False
def mNil (v : AV) (K : AV → Prop) (_ : Tag K) : Prop := match v with | .ref id off => K (.ref id off) | .cp cs => K (.cp cs) | .fn (.func f) a b => K (.fn (.func f) a b) | .ifc t v => K (.ifc t v) | _ => False
def mOb (a : Option Bool) (K : Bool → Prop) (_ : Tag K) : Prop := match a with | some b => K b | none => False
def mNn (a b : Option Bool) (K : Bool → Prop) (_ : Tag K) : Prop := match a, b with | some true, some b => K b | some false, some true => K false | _, _ => False
/-- An element. -/
def Elem (es : List AV) (n : Nat) (F : AV → Prop) (_ : Tag F) : Prop := ∀ e, es[n]? = some e → F e
def ElemT {α : Type} (es : List α) (n : Nat) (F : α → Prop) (_ : Tag F) : Prop := ∀ e, es[n]? = some e → F e
def Byte (s : ByteArray) (n : Nat) (F : UInt8 → Prop) (_ : Tag F) : Prop := ∀ e, s[n]? = some e → F e
def mGd (g : GuardIs) (K : Bool → Prop) (K' : Prop) (_ : Tag K) (_ : Tag K') : Prop := match g with | .yes b => K b | .never => K' | .unknown => False

theorem BrF.mk {b : Bool} {A B : Prop} {s t} (h : b = true → A) (h' : b = false → B) : BrF b A B s t := ⟨h, h'⟩
theorem BrF.dec {p : Prop} [Decidable p] {A B : Prop} {s t} (h : p → A) (h' : ¬ p → B) : BrF (decide p) A B s t := ⟨fun hb => h (of_decide_eq_true hb), fun hb => h' (of_decide_eq_false hb)⟩
theorem Need.mk {P A : Prop} {t} (h : P) (h' : A) : Need P A t := ⟨h, h'⟩
theorem EvF.use {E : Env} {f args h} {Q Q' : ARes → List AObj → Prop} {t} (hh : Ev E f args h Q) (hq : ∀ r h', Q r h' → Q' r h') : EvF E f args h Q' t := hh.mono hq
theorem EvF.ret {E : Env} {f args h v} {Q' : ARes → List AObj → Prop} {t} (hh : EvR E f args h v) (hq : Q' (.ret v) h) : EvF E f args h Q' t := hh.mono fun r h' ⟨h1, h2⟩ => by subst h1 h2; exact hq
theorem EvRF.ret {E : Env} {f args h v} {K : AV → Prop} {t} (hh : EvR E f args h v) (hq : K v.strip) : EvRF E f args h K t := ⟨v, hh, hq⟩

/-- The function's end, when it returns. -/
def Fin (h : List AObj) (n : Nat) (v : AV) (Q : ARes → List AObj → Prop) (_ : Tag Q) : Prop := ∃ h1 junk, h = h1 ++ junk ∧ n ≤ h1.length ∧ Closed h1 ∧ AV.under h1.length v = true ∧ Q (.ret v) h1
def FinP (h : List AObj) (n : Nat) (v : AV) (Q : ARes → List AObj → Prop) (_ : Tag Q) : Prop := ∃ h1 junk, h = h1 ++ junk ∧ n ≤ h1.length ∧ Closed h1 ∧ AV.under h1.length v = true ∧ Q (.panic v) h1
def FinS (vs : List AV) (K : AV → Prop) (_ : Tag K) : Prop := match vs with | [v] => K v | vs => K (.tup vs)

theorem Fin.same {h junk : List AObj} {v : AV} {Q : ARes → List AObj → Prop} {t} (hc : Closed h) (hu : AV.under h.length v = true) (hq : Q (.ret v) h) : Fin (h ++ junk) h.length v Q t := ⟨h, junk, rfl, Nat.le_refl _, hc, hu, hq⟩
theorem Fin.same0 {h : List AObj} {v : AV} {Q : ARes → List AObj → Prop} {t} (hc : Closed h) (hu : AV.under h.length v = true) (hq : Q (.ret v) h) : Fin h h.length v Q t := ⟨h, [], by simp, Nat.le_refl _, hc, hu, hq⟩

/-- The control. -/
theorem aw1 :
    (∀ A B s t, BrF true A B s t = A) ∧ (∀ A B s t, BrF false A B s t = B) ∧ (∀ A t, Need True A t = A) ∧
    (∀ (E : Env) c Q σ, awp E c Q σ = awpF E c Q .t .t σ) ∧
    (∀ (E : Env) Q s t σ, awpF E .skip Q s t σ = Q .normal σ) ∧
    (∀ (E : Env) ops Q s t σ, awpF E (.region ops) Q s t σ = aopsF E (Q .normal) Q ops .t .t .t σ) ∧
    (∀ (E : Env) ops Q s t σ, awpF E (.draw ops) Q s t σ = adrawF E (Q .normal) ops .t .t σ) ∧
    (∀ (E : Env) x y Q s t σ, awpF E (.seq x y) Q s t σ = awpF E x (thenQ (awp E y Q) Q) .t .t σ) ∧
    (∀ (E : Env) c x y Q s t σ, awpF E (.cond c x y) Q s t σ = mBool (ASt.ev E σ c) (fun b => BrF b (awp E x Q σ) (awp E y Q σ) .t .t) .t) ∧
    (∀ (E : Env) id c Q s t σ, awpF E (.block id c) Q s t σ = awpF E c (blockQ id Q) .t .t σ) ∧
    (∀ (E : Env) c Q s t σ, awpF E (.loop c) Q s t σ = LoopF E c Q .t .t σ) ∧
    (∀ (E : Env) id Q s t σ, awpF E (.exit id) Q s t σ = Q (.exit id) σ) ∧
    (∀ (E : Env) Q s t σ, awpF E .ret Q s t σ = Q .ret σ) ∧
    (∀ K Q σ, thenQ K Q .normal σ = K σ) ∧ (∀ K Q id σ, thenQ K Q (.exit id) σ = Q (.exit id) σ) ∧ (∀ K Q σ, thenQ K Q .ret σ = Q .ret σ) ∧ (∀ K Q v σ, thenQ K Q (.panic v) σ = Q (.panic v) σ) ∧
    (∀ id Q σ, blockQ id Q .normal σ = Q .normal σ) ∧ (∀ id Q id' σ, blockQ id Q (.exit id') σ = if id' = id then Q .normal σ else Q (.exit id') σ) ∧ (∀ id Q σ, blockQ id Q .ret σ = Q .ret σ) ∧ (∀ id Q v σ, blockQ id Q (.panic v) σ = Q (.panic v) σ) := by
  refine ⟨?_, ?_, ?_, ?_⟩
  · intro A B s t; simp [BrF]
  · intro A B s t; simp [BrF]
  · intro A t; simp [Need]
  refine ⟨fun _ _ _ _ => rfl, fun _ _ _ _ _ => rfl, fun _ _ _ _ _ _ => rfl, fun _ _ _ _ _ _ => rfl, fun _ _ _ _ _ _ _ => rfl, ?_, fun _ _ _ _ _ _ _ => rfl, fun _ _ _ _ _ _ => rfl, fun _ _ _ _ _ _ => rfl, fun _ _ _ _ _ => rfl, fun _ _ _ => rfl, fun _ _ _ _ => rfl, fun _ _ _ => rfl, fun _ _ _ _ => rfl,
    fun _ _ _ => rfl, fun _ _ _ _ => rfl, fun _ _ _ => rfl, fun _ _ _ _ => rfl⟩
  intro E c x y Q s t σ
  simp only [awpF, awp, mBool]
  cases ASt.ev E σ c with
  | lit v => cases v <;> rfl
  | _ => rfl

/-- Regions. -/
theorem aw2 :
    (∀ (E : Env) K Q l σ, aops E K Q l σ = aopsF E K Q l .t .t .t σ) ∧
    (∀ (E : Env) K Q r s t σ, aopsF E K Q [] r s t σ = K σ) ∧
    (∀ (E : Env) K Q d op rest r s t σ, aopsF E K Q (⟨d, op, none⟩ :: rest) r s t σ = aopF E σ d (fun σ' => aops E K Q rest σ') Q op .t .t .t) ∧
    (∀ (E : Env) K Q d op u want rest r s t σ, aopsF E K Q (⟨d, op, some (u, want)⟩ :: rest) r s t σ = mGd (guardIs (look σ.tmps u))
      (fun b => BrF (b == want) (aop E σ d (fun σ' => aops E K Q rest σ') Q op) (aops E K Q rest (σ.putO d (.lit undef))) .t .t)
      (aops E K Q rest (σ.putO d (.lit undef))) .t .t) ∧
    (∀ (E : Env) K l σ, adraw E K l σ = adrawF E K l .t .t σ) ∧
    (∀ (E : Env) K r s σ, adrawF E K [] r s σ = K σ) ∧
    (∀ (E : Env) K d op rest r s σ, adrawF E K (⟨d, op, none⟩ :: rest) r s σ = adopF E σ op (fun v => adraw E K rest (σ.putO d v)) .t .t) ∧
    (∀ (E : Env) K d op u want rest r s σ, adrawF E K (⟨d, op, some (u, want)⟩ :: rest) r s σ = mGd (guardIs (look σ.tmps u))
      (fun b => BrF (b == want) (adop E σ.heap (σ.ev E) op fun v => adraw E K rest (σ.putO d v)) (adraw E K rest (σ.putO d (.lit undef))) .t .t)
      (adraw E K rest (σ.putO d (.lit undef))) .t .t) ∧
    (∀ (E : Env) σ d K Q o, aop E σ d K Q o = aopF E σ d K Q o .t .t .t) ∧
    (∀ (E : Env) t h K o, adop E h (ASt.ev E ⟨t, h⟩) o K = adopF E ⟨t, h⟩ o K .t .t) ∧
    (∀ b K K' s t, mGd (.yes b) K K' s t = K b) ∧ (∀ K K' s t, mGd .never K K' s t = K') := by
  refine ⟨fun _ _ _ _ _ => rfl, fun _ _ _ _ _ _ _ => rfl, fun _ _ _ _ _ _ _ _ _ _ => rfl, ?_, fun _ _ _ _ => rfl, fun _ _ _ _ _ => rfl, fun _ _ _ _ _ _ _ _ => rfl, ?_, fun _ _ _ _ _ _ => rfl, fun _ _ _ _ _ => rfl, fun _ _ _ _ _ => rfl, fun _ _ _ _ => rfl⟩
  · intro E K Q d op u want rest r s t σ
    simp only [aopsF, aops, mGd]
    cases guardIs (look σ.tmps u) <;> rfl
  · intro E K d op u want rest r s σ
    simp only [adrawF, adraw, mGd]
    cases guardIs (look σ.tmps u) <;> rfl

/-- The function's end. -/
theorem aw3 :
    (∀ n ars Q σ, fnPost n ars Q .ret σ = rvsF σ ars (fun vs => FinS vs (fun v => Fin σ.heap n v Q .t) .t) .t) ∧
    (∀ n ars Q σ, fnPost n ars Q .normal σ = rvsF σ ars (fun vs => FinS vs (fun v => Fin σ.heap n v Q .t) .t) .t) ∧
    (∀ n ars Q v σ, fnPost n ars Q (.panic v) σ = FinP σ.heap n v Q .t) ∧
    (∀ σ K t, rvsF σ [] K t = K []) ∧ (∀ σ u rs K t, rvsF σ (.tmp u :: rs) K t = rvsF σ rs (fun vs => K ((look σ.tmps u).strip :: vs)) .t) ∧
    (∀ v K t, FinS [v] K t = K v) ∧ (∀ K t, FinS [] K t = K (.tup [])) ∧ (∀ v v' vs K t, FinS (v :: v' :: vs) K t = K (.tup (v :: v' :: vs))) ∧
    (∀ i a as, numbered i (a :: as) = (i, a) :: numbered (i + 1) as) ∧ (∀ i, numbered i [] = []) := by
  refine ⟨?_, ?_, fun _ _ _ _ _ => rfl, fun _ _ _ => rfl, fun _ _ _ _ _ => rfl, fun _ _ _ => rfl, fun _ _ => rfl, fun _ _ _ _ _ => rfl, fun _ _ _ => rfl, fun _ => rfl⟩ <;> (intro n ars Q σ; rfl)

/-- The states. -/
theorem aw4 :
    (∀ t h i v, ASt.putO ⟨t, h⟩ (some i) v = ⟨(i, v) :: t, h⟩) ∧ (∀ σ v, ASt.putO σ none v = σ) ∧ (∀ t h i v, ASt.put ⟨t, h⟩ i v = ⟨(i, v) :: t, h⟩) ∧
    (∀ i v l j, look ((i, v) :: l) j = if i = j then v else look l j) ∧ (∀ j, look [] j = .any) ∧
    (∀ (E : Env) σ t, ASt.ev E σ (.tmp t) = (look σ.tmps t).strip) ∧ (∀ (E : Env) σ v, ASt.ev E σ (.const v) = ofConst v) ∧ (∀ (E : Env) σ f, ASt.ev E σ (.func f) = .fn (.func f) [] []) ∧
    (∀ k n, ofConst (.int k n) = .lit (.int k n)) ∧ (∀ b, ofConst (.bool b) = .lit (.bool b)) ∧ (∀ s, ofConst (.string s) = .lit (.string s)) ∧ (ofConst (.slice none 0 0) = .sl .full []) ∧
    (ofConst .nilIface = .lit .nilIface) ∧ (ofConst .nilFunc = .lit .nilFunc) ∧ (ofConst (.pointer none) = .lit (.pointer none)) ∧ (ofConst (.map none) = .lit (.map none)) ∧ (∀ cs, ofConst (.agg cs) = .agg (cs.toList.map ofCell)) ∧
    (∀ v, AV.strip (.lit v) = .lit v) ∧ (∀ v, AV.strip (.agg v) = .agg v) ∧ (∀ v, AV.strip (.tup v) = .tup v) ∧ (∀ v, AV.strip (.cp v) = .cp v) ∧ (∀ a b, AV.strip (.ref a b) = .ref a b) ∧ (∀ a b c d, AV.strip (.vw a b c d) = .vw a b c d) ∧
    (∀ a b c, AV.strip (.fn a b c) = .fn a b c) ∧ (∀ a b, AV.strip (.ifc a b) = .ifc a b) ∧ (AV.strip .any = .any) ∧ (∀ es, AV.strip (.sl .unk es) = .sl .unk es) ∧ (∀ es, AV.strip (.sl .full es) = .sl .full es) ∧ (∀ k es, AV.strip (.sl (.own k) es) = .sl .unk es) ∧
    (∀ b, guardIs (.lit (.bool b)) = .yes b) ∧ (∀ v, guardIs (.lit (.tuple v)) = .never) ∧ (undef = .tuple #[]) ∧
    (∀ k n, ofCell (.int k n) = .lit (.int k n)) ∧ (∀ b, ofCell (.bool b) = .lit (.bool b)) ∧ (∀ s, ofCell (.string s) = .lit (.string s)) ∧ (ofCell (.slice none 0 0) = .sl .full []) ∧
    (∀ cs, AV.cells (.agg cs) = cs) ∧ (∀ v, AV.cells (.lit v) = [.lit v]) ∧ (∀ c v, AV.cells (.sl c v) = [.sl c v]) ∧ (∀ a b, AV.cells (.ref a b) = [.ref a b]) ∧ (∀ a b c, AV.cells (.fn a b c) = [.fn a b c]) := by
  refine ⟨fun _ _ _ _ => rfl, fun _ _ => rfl, fun _ _ _ _ => rfl, fun _ _ _ _ => rfl, fun _ => rfl, fun _ _ _ => rfl, fun _ _ _ => rfl, fun _ _ _ => rfl, fun _ _ => rfl, fun _ => rfl, fun _ => rfl, rfl, rfl, rfl, rfl, rfl, fun _ => rfl,
    fun _ => rfl, fun _ => rfl, fun _ => rfl, fun _ => rfl, fun _ _ => rfl, fun _ _ _ _ => rfl, fun _ _ _ => rfl, fun _ _ => rfl, rfl, fun _ => rfl, fun _ => rfl, fun _ _ => rfl, fun _ => rfl, fun _ => rfl, rfl, fun _ _ => rfl, fun _ => rfl, fun _ => rfl, rfl,
    fun _ => rfl, fun _ => rfl, fun _ _ => rfl, fun _ _ => rfl, fun _ _ _ => rfl⟩

/-- Values taken apart. -/
theorem aw5 :
    (∀ b K t, mBool (.lit (.bool b)) K t = K b) ∧ (∀ k n K t, mInt (.lit (.int k n)) K t = K k n) ∧ (∀ s K t, mStr (.lit (.string s)) K t = K s) ∧ (∀ v K t, mLit (.lit v) K t = K v) ∧ (∀ v K t, mAgg (.agg v) K t = K v) ∧ (∀ v K t, mTup (.tup v) K t = K v) ∧
    (∀ f a b K t, mFn (.fn (.func f) a b) K t = K f a b) ∧ (∀ a b K t, mIfc (.ifc a b) K t = K a b) ∧ (∀ c es K K' s t, mSl (.sl c es) K K' s t = K c es) ∧ (∀ a b c d K K' s t, mSl (.vw a b c d) K K' s t = K' a b c d) ∧
    (∀ a b K K' s t, mPtr (.ref a b) K K' s t = K a b) ∧ (∀ a K K' s t, mPtr (.cp a) K K' s t = K' a) ∧ (∀ v K t, mOpt (some v) K t = K v) ∧ (∀ v K t, mObj (some (.cells v)) K t = K v) ∧ (∀ v K t, mLst (some v) K t = K v) ∧ (∀ v K t, mByt (some v) K t = K v) ∧
    (∀ a b K t, mNil (.ref a b) K t = K (.ref a b)) ∧ (∀ a K t, mNil (.cp a) K t = K (.cp a)) ∧ (∀ f a b K t, mNil (.fn (.func f) a b) K t = K (.fn (.func f) a b)) ∧ (∀ a b K t, mNil (.ifc a b) K t = K (.ifc a b)) ∧
    (∀ b K t, mNn (some true) (some b) K t = K b) ∧ (∀ K t, mNn (some false) (some true) K t = K false) ∧
    (∀ {α : Type} (f : α → AV) xs n F t, Elem (List.map f xs) n F t = ElemT xs n (fun x => F (f x)) .t) := by
  refine ⟨fun _ _ _ => rfl, fun _ _ _ _ => rfl, fun _ _ _ => rfl, fun _ _ _ => rfl, fun _ _ _ => rfl, fun _ _ _ => rfl, fun _ _ _ _ _ => rfl, fun _ _ _ _ => rfl, fun _ _ _ _ _ _ => rfl, fun _ _ _ _ _ _ _ _ => rfl, fun _ _ _ _ _ _ => rfl, fun _ _ _ _ _ => rfl, fun _ _ _ => rfl, fun _ _ _ => rfl, fun _ _ _ => rfl, fun _ _ _ => rfl,
    fun _ _ _ _ => rfl, fun _ _ _ => rfl, fun _ _ _ _ _ => rfl, fun _ _ _ _ => rfl, fun _ _ _ => rfl, fun _ _ => rfl, ?_⟩
  intro α f xs n F t
  apply propext
  simp only [Elem, ElemT, List.getElem?_map, Option.map_eq_some_iff]
  constructor
  · intro h e he; exact h _ ⟨e, he, rfl⟩
  · rintro h e ⟨x, hx, rfl⟩; exact h x hx

end Go.Abs

namespace Go.Abs
open Go Go.RowKit

/-- A slice's bounds. -/
def mBnd (x : Option AV) (d : Int) (K : Int → Prop) (_ : Tag K) : Prop := match x with | none => K d | some v => (match v with | .lit (.int _ n) => K n | _ => False)

theorem bnd_iff {E : Env} {σ : ASt} {lo : Option Operand} {d : Int} {K : Int → Prop} : mBnd (lo.map (ASt.ev E σ)) d K .t ↔ ∃ l, (match lo with | none => l = d | some y => ∃ k, ASt.ev E σ y = .lit (.int k l)) ∧ K l := by
  cases lo with
  | none => simp [mBnd]
  | some y =>
    simp only [mBnd, Option.map_some]
    cases h : ASt.ev E σ y with
    | lit v => cases v <;> simp
    | _ => simp

theorem aw6 :
    (∀ (E : Env) σ x K s t, vF E σ (.move x) K s t = K (σ.ev E x)) ∧
    (∀ (E : Env) σ c a b K s t, vF E σ (.pick c a b) K s t = mBool (σ.ev E c) (fun u => K (if u then σ.ev E a else σ.ev E b)) .t) ∧
    (∀ (E : Env) σ x K s t, vF E σ (.nilCheck x) K s t = mNil (σ.ev E x) K .t) ∧
    (∀ (E : Env) σ op x y K s t, vF E σ (.bin op x y) K s t = mLit (σ.ev E x) (fun u => mLit (σ.ev E y) (fun v => binF op u v (fun r => K (.lit r)) .t) .t) .t) ∧
    (∀ (E : Env) σ neg x y K s t, vF E σ (.eqB neg x y) K s t = mBool (σ.ev E x) (fun a => mBool (σ.ev E y) (fun b => K (.lit (.bool (xor neg (decide (a = b)))))) .t) .t) ∧
    (∀ (E : Env) σ neg kind x y K s t, vF E σ (.eqN neg kind x y) K s t = mNn (nilness kind (σ.ev E x)) (nilness kind (σ.ev E y)) (fun b => K (.lit (.bool (xor neg b)))) .t) ∧
    (∀ (E : Env) σ x K s t, vF E σ (.un .not x) K s t = mBool (σ.ev E x) (fun b => K (.lit (.bool (!b)))) .t) ∧
    (∀ (E : Env) σ x K s t, vF E σ (.un .neg x) K s t = mInt (σ.ev E x) (fun k n => K (.lit (.int k (k.wrap (0 - n))))) .t) ∧
    (∀ (E : Env) σ k x K s t, vF E σ (.conv k x) K s t = mInt (σ.ev E x) (fun _ n => K (.lit (.int k (k.wrap n)))) .t) ∧
    (∀ (E : Env) σ x K s t, vF E σ (.convS x) K s t = mStr (σ.ev E x) (fun n => K (.lit (.string n))) .t) ∧
    (∀ (E : Env) σ x K s t, vF E σ (.toStr x) K s t = mSl (σ.ev E x) (fun _ es => mByt (bitesOf es) (fun l => K (.lit (.string ⟨l.toArray⟩))) .t) (fun _ _ _ _ => False) .t .t) ∧
    (∀ (E : Env) σ k x lo hi K s t, vF E σ (.slice k x lo hi) K s t = mSl (σ.ev E x) (fun _ es => mBnd (lo.map (σ.ev E)) 0 (fun l => mBnd (hi.map (σ.ev E)) es.length (fun u =>
      Need (0 ≤ l ∧ l ≤ u ∧ u ≤ es.length ∧ (l = 0 ∨ ∀ e, e ∈ es → e.sure = true ∧ e.cells.length = k)) (K (.sl .unk ((es.take u.toNat).drop l.toNat))) .t) .t) .t) (fun _ _ _ _ => False) .t .t) ∧
    (∀ (E : Env) σ x lo hi K s t, vF E σ (.sliceS x lo hi) K s t = mStr (σ.ev E x) (fun b => mBnd (lo.map (σ.ev E)) 0 (fun l => mBnd (hi.map (σ.ev E)) b.size (fun u =>
      Need (0 ≤ l ∧ l ≤ u ∧ u ≤ b.size) (K (.lit (.string (b.extract l.toNat u.toNat)))) .t) .t) .t) .t) ∧
    (∀ (E : Env) σ off x K s t, vF E σ (.fieldAddr off x) K s t = mPtr (σ.ev E x) (fun id o => K (.ref id (o + off))) (fun cs => K (.cp (cs.drop off))) .t .t) ∧
    (∀ (E : Env) σ off n x K s t, vF E σ (.field off (some n) x) K s t = mAgg (σ.ev E x) (fun cs => K (.agg ((cs.drop off).take n))) .t) ∧
    (∀ (E : Env) σ off x K s t, vF E σ (.field off none x) K s t = mAgg (σ.ev E x) (fun cs => mOpt cs[off]? (fun v => K v.strip) .t) .t) ∧
    (∀ (E : Env) σ k x i K s t, vF E σ (.indexAddr k x i) K s t = mSl (σ.ev E x) (fun _ es => mInt (σ.ev E i) (fun _ j => Need (0 ≤ j ∧ j < es.length) (Elem es j.toNat (fun e => Need (e.sure = true ∧ e.cells.length = k) (K (.cp e.cells)) .t) .t) .t) .t)
      (fun id off len _ => mInt (σ.ev E i) (fun _ j => Need (0 ≤ j ∧ j < len) (K (.ref id (off + j.toNat * k))) .t) .t) .t .t) ∧
    (∀ (E : Env) σ len k x i K s t, vF E σ (.indexAddrArr len k x i) K s t = mPtr (σ.ev E x) (fun id o => mInt (σ.ev E i) (fun _ j => Need (0 ≤ j ∧ j < len) (K (.ref id (o + j.toNat * k))) .t) .t)
      (fun cs => mInt (σ.ev E i) (fun _ j => Need (0 ≤ j ∧ j < len) (K (.cp (cs.drop (j.toNat * k)))) .t) .t) .t .t) ∧
    (∀ (E : Env) σ x i K s t, vF E σ (.indexS x i) K s t = mStr (σ.ev E x) (fun b => mInt (σ.ev E i) (fun _ j => Need (0 ≤ j ∧ j < b.size) (Byte b j.toNat (fun c => K (.lit (.int .u8 c.toNat))) .t) .t) .t) .t) ∧
    (∀ (E : Env) σ n x K s t, vF E σ (.load (some n) x) K s t = mPtr (σ.ev E x) (fun id off => mObj σ.heap[id]? (fun l => Need (off + n ≤ l.length) (K (.agg (((l.drop off).take n).map AV.strip))) .t) .t) (fun cs => Need (n ≤ cs.length) (K (.agg (cs.take n))) .t) .t .t) ∧
    (∀ (E : Env) σ x K s t, vF E σ (.load none x) K s t = mPtr (σ.ev E x) (fun id off => mObj σ.heap[id]? (fun l => mOpt l[off]? (fun v => K v.strip) .t) .t) (fun cs => mOpt cs[0]? (fun v => K v.strip) .t) .t .t) ∧
    (∀ (E : Env) σ x i K s t, vF E σ (.extract x i) K s t = mTup (σ.ev E x) (fun vs => mOpt vs[i]? (fun v => K v.strip) .t) .t) ∧
    (∀ (E : Env) σ x K s t, vF E σ (.len true x) K s t = mStr (σ.ev E x) (fun b => K (.lit (.int .i64 b.size))) .t) ∧
    (∀ (E : Env) σ x K s t, vF E σ (.len false x) K s t = mSl (σ.ev E x) (fun _ es => K (.lit (.int .i64 es.length))) (fun _ _ len _ => K (.lit (.int .i64 len))) .t .t) ∧
    (∀ (E : Env) σ u x K s t, vF E σ (.mkIface u x) K s t = K (.ifc u (σ.ev E x))) ∧
    (∀ (E : Env) σ f first caps K s t, vF E σ (.mkFunc f first caps) K s t = K (.fn f (first.map (σ.ev E)) (caps.map (σ.ev E)))) ∧
    (∀ (E : Env) σ zero parts K s t, vF E σ (.build zero parts) K s t = mLst (fillA (σ.ev E) zero parts) (fun cs => K (.agg cs)) .t) ∧
    (∀ d K t, mBnd none d K t = K d) ∧ (∀ k n d K t, mBnd (some (.lit (.int k n))) d K t = K n) := by
  refine ⟨fun _ _ _ _ _ _ => rfl, ?_, ?_, ?_, ?_, ?_, ?_, ?_, ?_, ?_, ?_, ?_, ?_, ?_, ?_, ?_, ?_, ?_, ?_, ?_, ?_, ?_, ?_, ?_, fun _ _ _ _ _ _ _ => rfl, fun _ _ _ _ _ _ _ _ => rfl, ?_, fun _ _ _ => rfl, fun _ _ _ _ _ => rfl⟩
  case refine_1 => intro E σ c a b K s t; simp only [vF, vop, mBool]; cases ASt.ev E σ c with
    | lit v => cases v <;> rfl
    | _ => rfl
  case refine_2 => intro E σ x K s t; simp only [vF, vop, mNil]; cases ASt.ev E σ x with
    | fn f a b => cases f <;> rfl
    | _ => rfl
  case refine_3 => intro E σ op x y K s t; simp only [vF, vop, mLit, binF]; cases ASt.ev E σ x <;> cases ASt.ev E σ y <;> rfl
  case refine_4 => intro E σ neg x y K s t; simp only [vF, vop, mBool]; cases ASt.ev E σ x with
    | lit v => cases v with
      | bool b => cases ASt.ev E σ y with
        | lit v => cases v <;> rfl
        | _ => rfl
      | _ => rfl
    | _ => rfl
  case refine_5 => intro E σ neg kind x y K s t; simp only [vF, vop, mNn]; cases nilness kind (ASt.ev E σ x) with
    | none => rfl
    | some a => cases nilness kind (ASt.ev E σ y) with
      | none => cases a <;> rfl
      | some b => cases a <;> cases b <;> first | rfl | (simp)
  case refine_6 => intro E σ x K s t; simp only [vF, vop, mBool]; cases ASt.ev E σ x with
    | lit v => cases v <;> rfl
    | _ => rfl
  case refine_7 => intro E σ x K s t; simp only [vF, vop, mInt]; cases ASt.ev E σ x with
    | lit v => cases v <;> rfl
    | _ => rfl
  case refine_8 => intro E σ k x K s t; simp only [vF, vop, mInt]; cases ASt.ev E σ x with
    | lit v => cases v <;> rfl
    | _ => rfl
  case refine_9 => intro E σ x K s t; simp only [vF, vop, mStr]; cases ASt.ev E σ x with
    | lit v => cases v <;> rfl
    | _ => rfl
  case refine_10 => intro E σ x K s t; simp only [vF, vop, mSl, mByt]; cases ASt.ev E σ x with
    | sl c es => cases bitesOf es <;> rfl
    | _ => rfl
  case refine_11 =>
    intro E σ k x lo hi K s t; simp only [vF, vop, mSl]; cases ASt.ev E σ x with
    | sl c es =>
      simp only
      apply propext
      rw [bnd_iff]
      constructor
      · rintro ⟨l, u, h1, h2, h3, h4, h5, h6, h7⟩; exact ⟨l, (by cases lo <;> exact h1), bnd_iff.2 ⟨u, (by cases hi <;> exact h2), ⟨h3, h4, h5, h6⟩, h7⟩⟩
      · rintro ⟨l, h1, h⟩; obtain ⟨u, h2, ⟨h3, h4, h5, h6⟩, h7⟩ := bnd_iff.1 h; exact ⟨l, u, (by cases lo <;> exact h1), (by cases hi <;> exact h2), h3, h4, h5, h6, h7⟩
    | _ => rfl
  case refine_12 =>
    intro E σ x lo hi K s t; simp only [vF, vop, mStr]; cases ASt.ev E σ x with
    | lit v => cases v with
      | string b =>
        simp only
        apply propext
        rw [bnd_iff]
        constructor
        · rintro ⟨l, u, h1, h2, h3, h4, h5, h7⟩; exact ⟨l, (by cases lo <;> exact h1), bnd_iff.2 ⟨u, (by cases hi <;> exact h2), ⟨h3, h4, h5⟩, h7⟩⟩
        · rintro ⟨l, h1, h⟩; obtain ⟨u, h2, ⟨h3, h4, h5⟩, h7⟩ := bnd_iff.1 h; exact ⟨l, u, (by cases lo <;> exact h1), (by cases hi <;> exact h2), h3, h4, h5, h7⟩
      | _ => rfl
    | _ => rfl
  case refine_13 => intro E σ off x K s t; simp only [vF, vop, mPtr]; cases ASt.ev E σ x <;> rfl
  case refine_14 => intro E σ off n x K s t; simp only [vF, vop, mAgg]; cases ASt.ev E σ x <;> rfl
  case refine_15 => intro E σ off x K s t; simp only [vF, vop, mAgg, mOpt]; cases ASt.ev E σ x with
    | agg cs => cases cs[off]? <;> rfl
    | _ => rfl
  case refine_16 => intro E σ k x i K s t; simp only [vF, vop, mSl, mInt]; cases ASt.ev E σ x with
    | sl c es => cases ASt.ev E σ i with
      | lit v => cases v with
        | int kk j =>
          simp only [Need, Elem]
          apply propext
          constructor
          · rintro ⟨h1, h2⟩; exact ⟨h1, fun e he => ⟨⟨(h2 e he).1, (h2 e he).2.1⟩, (h2 e he).2.2⟩⟩
          · rintro ⟨h1, h2⟩; exact ⟨h1, fun e he => ⟨(h2 e he).1.1, (h2 e he).1.2, (h2 e he).2⟩⟩
        | _ => rfl
      | _ => rfl
    | vw a b c d => cases ASt.ev E σ i with
      | lit v => cases v <;> rfl
      | _ => rfl
    | _ => rfl
  case refine_17 => intro E σ len k x i K s t; simp only [vF, vop, mPtr, mInt]; cases ASt.ev E σ x with
    | ref a b => cases ASt.ev E σ i with
      | lit v => cases v <;> rfl
      | _ => rfl
    | cp a => cases ASt.ev E σ i with
      | lit v => cases v <;> rfl
      | _ => rfl
    | _ => rfl
  case refine_18 => intro E σ x i K s t; simp only [vF, vop, mStr, mInt]; cases ASt.ev E σ x with
    | lit v => cases v with
      | string b => cases ASt.ev E σ i with
        | lit v => cases v <;> rfl
        | _ => rfl
      | _ => rfl
    | _ => rfl
  case refine_19 => intro E σ n x K s t; simp only [vF, vop, mPtr, mObj]; cases ASt.ev E σ x with
    | ref a b => cases σ.heap[a]? with
      | none => rfl
      | some o => cases o <;> rfl
    | _ => rfl
  case refine_20 => intro E σ x K s t; simp only [vF, vop, mPtr, mObj, mOpt]; cases ASt.ev E σ x with
    | ref a b => simp only; cases σ.heap[a]? with
      | none => rfl
      | some o => cases o with
        | cells l => simp only; cases l[b]? <;> rfl
        | gone => rfl
    | cp cs => simp only; cases cs[0]? <;> rfl
    | _ => rfl
  case refine_21 => intro E σ x i K s t; simp only [vF, vop, mTup, mOpt]; cases ASt.ev E σ x with
    | tup vs => cases h : vs[i]? <;> simp [h]
    | _ => rfl
  case refine_22 => intro E σ x K s t; simp only [vF, vop, mStr]; cases ASt.ev E σ x with
    | lit v => cases v <;> rfl
    | _ => rfl
  case refine_23 => intro E σ x K s t; simp only [vF, vop, mSl]; cases ASt.ev E σ x <;> rfl
  case refine_24 => intro E σ zero parts K s t; simp only [vF, vop, mLst]; cases fillA (ASt.ev E σ) zero parts <;> rfl

/-- Arithmetic. -/
theorem aw7 :
    (∀ k a k' b K t, binF .add (.int k a) (.int k' b) K t = Need (k = k') (K (.int k (k.wrap (a + b)))) .t) ∧
    (∀ k a k' b K t, binF .sub (.int k a) (.int k' b) K t = Need (k = k') (K (.int k (k.wrap (a - b)))) .t) ∧
    (∀ k a k' b K t, binF .mul (.int k a) (.int k' b) K t = Need (k = k') (K (.int k (k.wrap (a * b)))) .t) ∧
    (∀ k a k' b K t, binF .quo (.int k a) (.int k' b) K t = Need (k = k' ∧ b ≠ 0) (K (.int k (k.wrap (a.tdiv b)))) .t) ∧
    (∀ k a k' b K t, binF .rem (.int k a) (.int k' b) K t = Need (k = k' ∧ b ≠ 0) (K (.int k (a.tmod b))) .t) ∧
    (∀ k a k' b K t, binF .shl (.int k a) (.int k' b) K t = Need (0 ≤ b) (K (.int k (k.wrap (a * 2 ^ (min b.toNat k.bits))))) .t) ∧
    (∀ k a k' b K t, binF .shr (.int k a) (.int k' b) K t = Need (0 ≤ b) (K (.int k (a.fdiv (2 ^ (min b.toNat k.bits))))) .t) ∧
    (∀ k a k' b K t, binF .and (.int k a) (.int k' b) K t = Need (k = k') (K (.int k (ibits .and k a b))) .t) ∧
    (∀ k a k' b K t, binF .or (.int k a) (.int k' b) K t = Need (k = k') (K (.int k (ibits .or k a b))) .t) ∧
    (∀ k a k' b K t, binF .xor (.int k a) (.int k' b) K t = Need (k = k') (K (.int k (ibits .xor k a b))) .t) ∧
    (∀ k a k' b K t, binF .eql (.int k a) (.int k' b) K t = Need (k = k') (K (.bool (decide (a = b)))) .t) ∧
    (∀ k a k' b K t, binF .neq (.int k a) (.int k' b) K t = Need (k = k') (K (.bool (!decide (a = b)))) .t) ∧
    (∀ k a k' b K t, binF .lss (.int k a) (.int k' b) K t = Need (k = k') (K (.bool (decide (a < b)))) .t) ∧
    (∀ k a k' b K t, binF .leq (.int k a) (.int k' b) K t = Need (k = k') (K (.bool (decide (a ≤ b)))) .t) ∧
    (∀ k a k' b K t, binF .gtr (.int k a) (.int k' b) K t = Need (k = k') (K (.bool (decide (b < a)))) .t) ∧
    (∀ k a k' b K t, binF .geq (.int k a) (.int k' b) K t = Need (k = k') (K (.bool (decide (b ≤ a)))) .t) ∧
    (∀ a b K t, binF .add (.string a) (.string b) K t = Need (a.size + b.size < 2 ^ 63) (K (.string (a ++ b))) .t) ∧
    (∀ a b K t, binF .eql (.string a) (.string b) K t = K (.bool (decide (a = b)))) ∧
    (∀ a b K t, binF .neq (.string a) (.string b) K t = K (.bool (!decide (a = b)))) ∧
    (∀ a b K t, binF .lss (.string a) (.string b) K t = K (.bool (sless a b))) := by
  refine ⟨fun _ _ _ _ _ _ => rfl, fun _ _ _ _ _ _ => rfl, fun _ _ _ _ _ _ => rfl, ?_, ?_, fun _ _ _ _ _ _ => rfl, fun _ _ _ _ _ _ => rfl, fun _ _ _ _ _ _ => rfl, fun _ _ _ _ _ _ => rfl, fun _ _ _ _ _ _ => rfl, fun _ _ _ _ _ _ => rfl, fun _ _ _ _ _ _ => rfl, fun _ _ _ _ _ _ => rfl, fun _ _ _ _ _ _ => rfl, fun _ _ _ _ _ _ => rfl, fun _ _ _ _ _ _ => rfl,
    fun _ _ _ _ => rfl, fun _ _ _ _ => rfl, fun _ _ _ _ => rfl, fun _ _ _ _ => rfl⟩
  · intro k a k' b K t; simp [binF, binW, Need, and_assoc]
  · intro k a k' b K t; simp [binF, binW, Need, and_assoc]


/-- The operations in a region: those that yield a value, and those that act. -/
def isVal : AOp → Bool
  | .take _ | .box _ | .alloc _ | .store _ _ _ | .append _ _ _ _ _ | .toBytes _ | .buildSlice _ _ _ _ _ | .makeSlice _ _ _ _ _ _ | .call _ _ | .panic _ | .conv8 _ | .boxB _ _ _ => false
  | _ => true

def litParts (E : Env) (σ : ASt) (k : Nat) (parts : List (Nat × Operand)) : Prop := ∀ p, p ∈ parts → (σ.ev E p.2).sure = true ∧ (σ.ev E p.2).cells.length = k ∧ (σ.ev E p.2).cells.all AV.one = true

theorem aw8 :
    (∀ (E : Env) σ u i K Q r s t, aopF E σ (some i) K Q (.take u) r s t = Need (u ≠ i) (K { σ with tmps := (i, look σ.tmps u) :: (u, (look σ.tmps u).strip) :: σ.tmps }) .t) ∧
    (∀ (E : Env) σ d x K Q r s t, aopF E σ d K Q (.box x) r s t = Need ((σ.ev E x).sure = true) (K ({ σ with heap := σ.heap ++ [AObj.cells ((σ.ev E x).cells.map AV.strip)] }.putO d (.ref σ.heap.length 0))) .t) ∧
    (∀ (E : Env) σ d zero K Q r s t, aopF E σ d K Q (.alloc zero) r s t = K ({ σ with heap := σ.heap ++ [AObj.cells zero] }.putO d (.ref σ.heap.length 0))) ∧
    (∀ (E : Env) σ d n x y K Q r s t, aopF E σ d K Q (.store n x y) r s t = mPtr (σ.ev E x) (fun id off => mObj σ.heap[id]? (fun l => Need ((σ.ev E y).sure = true ∧ (σ.ev E y).cells.length = n ∧ off + n ≤ l.length ∧ (σ.ev E y).cells.all AV.one = true)
      (K ({ σ with heap := σ.heap.set id (AObj.cells (setMany l off ((σ.ev E y).cells.map AV.strip))) }.putO d .any)) .t) .t) (fun _ => False) .t .t) ∧
    (∀ (E : Env) σ i x K Q r s t, aopF E σ (some i) K Q (.toBytes x) r s t = mStr (σ.ev E x) (fun b => Need (b.size < 2 ^ 62) (K (σ.put i (.sl (.own 1) (b.data.toList.map fun b => .lit (.int .u8 b.toNat))))) .t) .t) ∧
    (∀ (E : Env) σ d k zero len parts K Q r s t, aopF E σ d K Q (.buildSlice false k zero len parts) r s t = Need (parts.map (·.1) = List.range len ∧ len * k ≤ 2 ^ 24 ∧ 0 < k ∧ zero.length = k ∧ litParts E σ k parts) (K (σ.putO d (.sl .full (parts.map fun (p : Nat × Operand) => σ.ev E p.2)))) .t) ∧
    (∀ (E : Env) σ d k zero len parts K Q r s t, aopF E σ d K Q (.buildSlice true k zero len parts) r s t = Need (parts.map (·.1) = List.range len ∧ len * k ≤ 2 ^ 24 ∧ 0 < k ∧ zero.length = k ∧ litParts E σ k parts)
      (K ({ σ with heap := σ.heap ++ [AObj.cells ((flatC (parts.map fun (p : Nat × Operand) => σ.ev E p.2)).map AV.strip)] }.putO d (.vw σ.heap.length 0 len len))) .t) ∧
    (∀ (E : Env) σ d f args K Q r s t, aopF E σ d K Q (.call f args) r s t = mFn (σ.ev E f) (fun fid first caps => EvF E fid (first.map AV.strip ++ args.map (fun x => σ.ev E x.1) ++ caps.map AV.strip) σ.heap (fun r h' => match r with
      | .ret v => K ({ σ with heap := h' }.putO d v.strip)
      | .panic v => Q (.panic v) { σ with heap := h' }) .t) .t) ∧
    (∀ (E : Env) σ d x K Q r s t, aopF E σ d K Q (.panic x) r s t = mIfc (σ.ev E x) (fun u v => Q (.panic (.ifc u v)) σ) .t) ∧
    (∀ (E : Env) σ i k bytes zero x y K Q r s t, aopF E σ (some i) K Q (.append k bytes zero (.tmp x) y) r s t = mSl (look σ.tmps x) (fun c es => mLst (argElems (σ.ev E y)) (fun xs =>
      Need ((x ≠ i ∧ 0 < k ∧ zero.length = k) ∧ (c = .own k ∨ (c = .full ∧ Fit k es)) ∧ Fit k xs ∧ allOne xs ∧ ((2 * (es.length + xs.length) + 192) * bytes ≤ 2 ^ 48 ∧ es.length + xs.length < 2 ^ 62))
        (K { σ with tmps := (i, .sl (.own k) (es ++ xs)) :: (x, (look σ.tmps x).strip) :: σ.tmps }) .t) .t) (fun _ _ _ _ => False) .t .t) ∧
    (∀ (E : Env) σ f args K s t, adopF E σ (.call f args) K s t = mFn (σ.ev E f) (fun fid first caps => EvRF E fid (first.map AV.strip ++ args.map (fun x => σ.ev E x.1) ++ caps.map AV.strip) σ.heap K .t) .t) ∧
    (∀ (E : Env) σ k zero len parts K s t, adopF E σ (.buildSlice false k zero len parts) K s t = Need (parts.map (·.1) = List.range len ∧ len * k ≤ 2 ^ 24 ∧ 0 < k ∧ zero.length = k ∧ litParts E σ k parts) (K (.sl .full (parts.map fun (p : Nat × Operand) => σ.ev E p.2))) .t) := by
  refine ⟨fun _ _ _ _ _ _ _ _ _ => rfl, fun _ _ _ _ _ _ _ _ _ => rfl, fun _ _ _ _ _ _ _ _ _ => rfl, ?_, ?_, fun _ _ _ _ _ _ _ _ _ _ _ _ => rfl, fun _ _ _ _ _ _ _ _ _ _ _ _ => rfl, ?_, ?_, ?_, ?_, fun _ _ _ _ _ _ _ _ _ => rfl⟩
  · intro E σ d n x y K Q r s t; simp only [aopF, aop, mPtr, mObj]; cases ASt.ev E σ x with
    | ref a b => simp only; cases σ.heap[a]? with
      | none => rfl
      | some o => cases o <;> rfl
    | _ => rfl
  · intro E σ i x K Q r s t; simp only [aopF, aop, mStr]; cases ASt.ev E σ x with
    | lit v => cases v <;> rfl
    | _ => rfl
  · intro E σ d f args K Q r s t; simp only [aopF, aop, fnOf, mFn]; cases ASt.ev E σ f with
    | fn f a b => cases f <;> rfl
    | _ => rfl
  · intro E σ d x K Q r s t; simp only [aopF, aop, mIfc]; cases ASt.ev E σ x <;> rfl
  · intro E σ i k bytes zero x y K Q r s t
    simp only [aopF, aop, mSl, mLst, ASt.raw, ASt.taken, isTmp]
    cases hl : look σ.tmps x with
    | sl c es => simp only; cases argElems (ASt.ev E σ y) with
      | none => rfl
      | some xs =>
        simp only [Need, AV.strip]
        apply propext
        constructor
        · rintro ⟨⟨h1, h2, h3⟩, h4, h5, h6, h7, h8⟩; exact ⟨⟨⟨by simpa using h1, h2, h3⟩, h4, h5, h6, h7⟩, h8⟩
        · rintro ⟨⟨⟨h1, h2, h3⟩, h4, h5, h6, h7⟩, h8⟩; exact ⟨⟨by simpa using h1, h2, h3⟩, h4, h5, h6, h7, h8⟩
    | _ => rfl
  · intro E σ f args K s t; simp only [adopF, adop, mFn]; cases ASt.ev E σ f with
    | fn f a b => cases f <;> rfl
    | _ => rfl

theorem aw9 :
    (∀ (E : Env) σ d K Q x r s t, aopF E σ d K Q (.move x) r s t = vF E σ (.move x) (fun v => K (σ.putO d v)) .t .t) ∧
    (∀ (E : Env) σ K x s t, adopF E σ (.move x) K s t = vF E σ (.move x) K .t .t) ∧
    (∀ (E : Env) σ d K Q x y z r s t, aopF E σ d K Q (.pick x y z) r s t = vF E σ (.pick x y z) (fun v => K (σ.putO d v)) .t .t) ∧
    (∀ (E : Env) σ K x y z s t, adopF E σ (.pick x y z) K s t = vF E σ (.pick x y z) K .t .t) ∧
    (∀ (E : Env) σ d K Q x r s t, aopF E σ d K Q (.nilCheck x) r s t = vF E σ (.nilCheck x) (fun v => K (σ.putO d v)) .t .t) ∧
    (∀ (E : Env) σ K x s t, adopF E σ (.nilCheck x) K s t = vF E σ (.nilCheck x) K .t .t) ∧
    (∀ (E : Env) σ d K Q p x y r s t, aopF E σ d K Q (.bin p x y) r s t = vF E σ (.bin p x y) (fun v => K (σ.putO d v)) .t .t) ∧
    (∀ (E : Env) σ K p x y s t, adopF E σ (.bin p x y) K s t = vF E σ (.bin p x y) K .t .t) ∧
    (∀ (E : Env) σ d K Q b x y r s t, aopF E σ d K Q (.eqB b x y) r s t = vF E σ (.eqB b x y) (fun v => K (σ.putO d v)) .t .t) ∧
    (∀ (E : Env) σ K b x y s t, adopF E σ (.eqB b x y) K s t = vF E σ (.eqB b x y) K .t .t) ∧
    (∀ (E : Env) σ d K Q b n x y r s t, aopF E σ d K Q (.eqN b n x y) r s t = vF E σ (.eqN b n x y) (fun v => K (σ.putO d v)) .t .t) ∧
    (∀ (E : Env) σ K b n x y s t, adopF E σ (.eqN b n x y) K s t = vF E σ (.eqN b n x y) K .t .t) ∧
    (∀ (E : Env) σ d K Q p x r s t, aopF E σ d K Q (.un p x) r s t = vF E σ (.un p x) (fun v => K (σ.putO d v)) .t .t) ∧
    (∀ (E : Env) σ K p x s t, adopF E σ (.un p x) K s t = vF E σ (.un p x) K .t .t) ∧
    (∀ (E : Env) σ d K Q p x r s t, aopF E σ d K Q (.conv p x) r s t = vF E σ (.conv p x) (fun v => K (σ.putO d v)) .t .t) ∧
    (∀ (E : Env) σ K p x s t, adopF E σ (.conv p x) K s t = vF E σ (.conv p x) K .t .t) ∧
    (∀ (E : Env) σ d K Q x r s t, aopF E σ d K Q (.convS x) r s t = vF E σ (.convS x) (fun v => K (σ.putO d v)) .t .t) ∧
    (∀ (E : Env) σ K x s t, adopF E σ (.convS x) K s t = vF E σ (.convS x) K .t .t) ∧
    (∀ (E : Env) σ d K Q x r s t, aopF E σ d K Q (.toStr x) r s t = vF E σ (.toStr x) (fun v => K (σ.putO d v)) .t .t) ∧
    (∀ (E : Env) σ K x s t, adopF E σ (.toStr x) K s t = vF E σ (.toStr x) K .t .t) ∧
    (∀ (E : Env) σ d K Q n x lo hi r s t, aopF E σ d K Q (.slice n x lo hi) r s t = vF E σ (.slice n x lo hi) (fun v => K (σ.putO d v)) .t .t) ∧
    (∀ (E : Env) σ K n x lo hi s t, adopF E σ (.slice n x lo hi) K s t = vF E σ (.slice n x lo hi) K .t .t) ∧
    (∀ (E : Env) σ d K Q x lo hi r s t, aopF E σ d K Q (.sliceS x lo hi) r s t = vF E σ (.sliceS x lo hi) (fun v => K (σ.putO d v)) .t .t) ∧
    (∀ (E : Env) σ K x lo hi s t, adopF E σ (.sliceS x lo hi) K s t = vF E σ (.sliceS x lo hi) K .t .t) ∧
    (∀ (E : Env) σ d K Q n x r s t, aopF E σ d K Q (.fieldAddr n x) r s t = vF E σ (.fieldAddr n x) (fun v => K (σ.putO d v)) .t .t) ∧
    (∀ (E : Env) σ K n x s t, adopF E σ (.fieldAddr n x) K s t = vF E σ (.fieldAddr n x) K .t .t) ∧
    (∀ (E : Env) σ d K Q n p x r s t, aopF E σ d K Q (.field n p x) r s t = vF E σ (.field n p x) (fun v => K (σ.putO d v)) .t .t) ∧
    (∀ (E : Env) σ K n p x s t, adopF E σ (.field n p x) K s t = vF E σ (.field n p x) K .t .t) ∧
    (∀ (E : Env) σ d K Q n x y r s t, aopF E σ d K Q (.indexAddr n x y) r s t = vF E σ (.indexAddr n x y) (fun v => K (σ.putO d v)) .t .t) ∧
    (∀ (E : Env) σ K n x y s t, adopF E σ (.indexAddr n x y) K s t = vF E σ (.indexAddr n x y) K .t .t) ∧
    (∀ (E : Env) σ d K Q n m x y r s t, aopF E σ d K Q (.indexAddrArr n m x y) r s t = vF E σ (.indexAddrArr n m x y) (fun v => K (σ.putO d v)) .t .t) ∧
    (∀ (E : Env) σ K n m x y s t, adopF E σ (.indexAddrArr n m x y) K s t = vF E σ (.indexAddrArr n m x y) K .t .t) ∧
    (∀ (E : Env) σ d K Q x y r s t, aopF E σ d K Q (.indexS x y) r s t = vF E σ (.indexS x y) (fun v => K (σ.putO d v)) .t .t) ∧
    (∀ (E : Env) σ K x y s t, adopF E σ (.indexS x y) K s t = vF E σ (.indexS x y) K .t .t) ∧
    (∀ (E : Env) σ d K Q n m p x y r s t, aopF E σ d K Q (.indexArr n m p x y) r s t = vF E σ (.indexArr n m p x y) (fun v => K (σ.putO d v)) .t .t) ∧
    (∀ (E : Env) σ K n m p x y s t, adopF E σ (.indexArr n m p x y) K s t = vF E σ (.indexArr n m p x y) K .t .t) ∧
    (∀ (E : Env) σ d K Q p x r s t, aopF E σ d K Q (.load p x) r s t = vF E σ (.load p x) (fun v => K (σ.putO d v)) .t .t) ∧
    (∀ (E : Env) σ K p x s t, adopF E σ (.load p x) K s t = vF E σ (.load p x) K .t .t) ∧
    (∀ (E : Env) σ d K Q x n r s t, aopF E σ d K Q (.extract x n) r s t = vF E σ (.extract x n) (fun v => K (σ.putO d v)) .t .t) ∧
    (∀ (E : Env) σ K x n s t, adopF E σ (.extract x n) K s t = vF E σ (.extract x n) K .t .t) ∧
    (∀ (E : Env) σ d K Q b x r s t, aopF E σ d K Q (.len b x) r s t = vF E σ (.len b x) (fun v => K (σ.putO d v)) .t .t) ∧
    (∀ (E : Env) σ K b x s t, adopF E σ (.len b x) K s t = vF E σ (.len b x) K .t .t) ∧
    (∀ (E : Env) σ d K Q n x r s t, aopF E σ d K Q (.mkIface n x) r s t = vF E σ (.mkIface n x) (fun v => K (σ.putO d v)) .t .t) ∧
    (∀ (E : Env) σ K n x s t, adopF E σ (.mkIface n x) K s t = vF E σ (.mkIface n x) K .t .t) ∧
    (∀ (E : Env) σ d K Q p l m r s t, aopF E σ d K Q (.mkFunc p l m) r s t = vF E σ (.mkFunc p l m) (fun v => K (σ.putO d v)) .t .t) ∧
    (∀ (E : Env) σ K p l m s t, adopF E σ (.mkFunc p l m) K s t = vF E σ (.mkFunc p l m) K .t .t) ∧
    (∀ (E : Env) σ d K Q p l r s t, aopF E σ d K Q (.build p l) r s t = vF E σ (.build p l) (fun v => K (σ.putO d v)) .t .t) ∧
    (∀ (E : Env) σ K p l s t, adopF E σ (.build p l) K s t = vF E σ (.build p l) K .t .t) :=
  ⟨fun _ _ _ _ _ _ _ _ _ => rfl, fun _ _ _ _ _ _ => rfl, fun _ _ _ _ _ _ _ _ _ _ _ => rfl, fun _ _ _ _ _ _ _ _ => rfl, fun _ _ _ _ _ _ _ _ _ => rfl, fun _ _ _ _ _ _ => rfl, fun _ _ _ _ _ _ _ _ _ _ _ => rfl, fun _ _ _ _ _ _ _ _ => rfl, fun _ _ _ _ _ _ _ _ _ _ _ => rfl, fun _ _ _ _ _ _ _ _ => rfl, fun _ _ _ _ _ _ _ _ _ _ _ _ => rfl, fun _ _ _ _ _ _ _ _ _ => rfl, fun _ _ _ _ _ _ _ _ _ _ => rfl, fun _ _ _ _ _ _ _ => rfl, fun _ _ _ _ _ _ _ _ _ _ => rfl, fun _ _ _ _ _ _ _ => rfl, fun _ _ _ _ _ _ _ _ _ => rfl, fun _ _ _ _ _ _ => rfl, fun _ _ _ _ _ _ _ _ _ => rfl, fun _ _ _ _ _ _ => rfl, fun _ _ _ _ _ _ _ _ _ _ _ _ => rfl, fun _ _ _ _ _ _ _ _ _ => rfl, fun _ _ _ _ _ _ _ _ _ _ _ => rfl, fun _ _ _ _ _ _ _ _ => rfl, fun _ _ _ _ _ _ _ _ _ _ => rfl, fun _ _ _ _ _ _ _ => rfl, fun _ _ _ _ _ _ _ _ _ _ _ => rfl, fun _ _ _ _ _ _ _ _ => rfl, fun _ _ _ _ _ _ _ _ _ _ _ => rfl, fun _ _ _ _ _ _ _ _ => rfl, fun _ _ _ _ _ _ _ _ _ _ _ _ => rfl, fun _ _ _ _ _ _ _ _ _ => rfl, fun _ _ _ _ _ _ _ _ _ _ => rfl, fun _ _ _ _ _ _ _ => rfl, fun _ _ _ _ _ _ _ _ _ _ _ _ _ => rfl, fun _ _ _ _ _ _ _ _ _ _ => rfl, fun _ _ _ _ _ _ _ _ _ _ => rfl, fun _ _ _ _ _ _ _ => rfl, fun _ _ _ _ _ _ _ _ _ _ => rfl, fun _ _ _ _ _ _ _ => rfl, fun _ _ _ _ _ _ _ _ _ _ => rfl, fun _ _ _ _ _ _ _ => rfl, fun _ _ _ _ _ _ _ _ _ _ => rfl, fun _ _ _ _ _ _ _ => rfl, fun _ _ _ _ _ _ _ _ _ _ _ => rfl, fun _ _ _ _ _ _ _ _ => rfl, fun _ _ _ _ _ _ _ _ _ _ => rfl, fun _ _ _ _ _ _ _ => rfl⟩

theorem aw10 :
    (∀ (E : Env) σ mx x y K s t, vF E σ (.minmax mx x y) K s t = mInt (σ.ev E x) (fun k a => mInt (σ.ev E y) (fun _ b => K (.lit (.int k (if mx then (if b > a then b else a) else (if b < a then b else a))))) .t) .t) ∧
    (∀ (E : Env) σ d K Q b x y r s t, aopF E σ d K Q (.minmax b x y) r s t = vF E σ (.minmax b x y) (fun v => K (σ.putO d v)) .t .t) ∧
    (∀ (E : Env) σ K b x y s t, adopF E σ (.minmax b x y) K s t = vF E σ (.minmax b x y) K .t .t) ∧
    (∀ (E : Env) σ d x K Q r s t, aopF E σ d K Q (.conv8 x) r s t = mSl (σ.ev E x) (fun _ _ => False) (fun id off len _ => mObj σ.heap[id]? (fun l => Need (off = 0 ∧ l.length = len ∧ l.all AV.one = true ∧ (∀ av, av ∈ l → av.sure = true ∧ av.cells = [av])) (K ({ σ with heap := σ.heap.set id .gone }.putO d (.sl .unk l))) .t) .t) .t .t) := by
  refine ⟨?_, fun _ _ _ _ _ _ _ _ _ _ _ => rfl, fun _ _ _ _ _ _ _ _ => rfl, ?_⟩
  · intro E σ mx x y K s t; simp only [vF, vop, mInt]; cases ASt.ev E σ x with
    | lit v => cases v <;> first | rfl | (cases ASt.ev E σ y with
      | lit u => cases u <;> rfl
      | _ => rfl)
    | _ => rfl
  · intro E σ d x K Q r s t; simp only [aopF, aop, mSl, mObj]; cases ASt.ev E σ x with
    | vw a b c d => simp only; cases σ.heap[a]? with
      | none => rfl
      | some o => cases o <;> rfl
    | _ => rfl

theorem aw13 :
    (∀ (E : Env) σ x K s t, adopF E σ (.toBytes x) K s t = mStr (σ.ev E x) (fun b => K (.sl .unk (b.data.toList.map fun c => .lit (.int .u8 c.toNat)))) .t) ∧
    (∀ b : Bool, (b == true) = b) ∧ (∀ b : Bool, (b == false) = !b) := by
  refine ⟨?_, fun b => by cases b <;> rfl, fun b => by cases b <;> rfl⟩
  intro E σ x K s t; simp only [adopF, adop, mStr]; cases ASt.ev E σ x with
  | lit v => cases v <;> rfl
  | _ => rfl

theorem aw19 :
    (∀ (E : Env) σ b n x y K s t, vF E σ (.eqS b n x y) K s t = mAgg (σ.ev E x) (fun cs => mAgg (σ.ev E y) (fun ds => mOb (eqCells n cs ds) (fun r => K (.lit (.bool (xor b r)))) .t) .t) .t) ∧
    (∀ (E : Env) σ d K Q b n x y r s t, aopF E σ d K Q (.eqS b n x y) r s t = vF E σ (.eqS b n x y) (fun v => K (σ.putO d v)) .t .t) ∧
    (∀ (E : Env) σ K b n x y s t, adopF E σ (.eqS b n x y) K s t = vF E σ (.eqS b n x y) K .t .t) ∧
    (∀ b K t, mOb (some b) K t = K b) ∧ eqCells [] [] [] = some true ∧
    (∀ ks a as b bs, eqCells (0 :: ks) (.lit (.bool a) :: as) (.lit (.bool b) :: bs) = (eqCells ks as bs).map (decide (a = b) && ·)) ∧
    (∀ ks k a as b bs, eqCells (1 :: ks) (.lit (.int k a) :: as) (.lit (.int k b) :: bs) = (eqCells ks as bs).map (decide (a = b) && ·)) ∧
    (∀ ks a as b bs, eqCells (2 :: ks) (.lit (.string a) :: as) (.lit (.string b) :: bs) = (eqCells ks as bs).map (decide (a = b) && ·)) := by
  refine ⟨?_, fun _ _ _ _ _ _ _ _ _ _ _ _ => rfl, fun _ _ _ _ _ _ _ _ _ => rfl, fun _ _ _ => rfl, rfl, ?_, ?_, ?_⟩
  · intro E σ b n x y K s t; simp only [vF, vop, mAgg, mOb]; cases ASt.ev E σ x with
    | agg cs => cases ASt.ev E σ y with
      | agg ds => cases eqCells n cs ds <;> rfl
      | _ => rfl
    | _ => rfl
  · intro ks a as b bs; simp only [eqCells]; cases eqCells ks as bs <;> rfl
  · intro ks k a as b bs; simp only [eqCells, if_true]; cases eqCells ks as bs <;> rfl
  · intro ks a as b bs; simp only [eqCells]; cases eqCells ks as bs <;> rfl

end Go.Abs

namespace Go.Abs
open Go Go.RowKit

theorem weak_of {σ σ' : ASt} (hh : σ'.heap = σ.heap) (hl : ∀ p, p ∈ σ'.tmps → look σ.tmps p.1 = p.2) : Weak σ σ' := by
  refine ⟨hh, fun i => ?_⟩
  have : ∀ l : List (Nat × AV), (∀ p, p ∈ l → look σ.tmps p.1 = p.2) → look l i = look σ.tmps i ∨ look l i = .any := by
    intro l
    induction l with
    | nil => intro _; exact .inr rfl
    | cons x l ih =>
      intro h
      obtain ⟨j, v⟩ := x
      by_cases hj : j = i
      · subst hj
        rw [look_cons_same]
        exact .inl (h (j, v) (by simp)).symm
      · rw [look_cons_ne hj]
        exact ih fun p hp => h p (by simp [hp])
  exact this _ hl

theorem Weak.refl (σ : ASt) : Weak σ σ := ⟨rfl, fun _ => .inl rfl⟩

/-- A loop: the states at its head are told by x; a measure falls. -/
theorem LoopF.by {E : Env} {c : ACode} {Q : AEx → ASt → Prop} {s t} {σ : ASt} {α : Type} (st : α → ASt) (m : α → Nat) (inv : α → Prop) (x0 : α) (h0 : inv x0) (hw : Weak σ (st x0))
    (hs : ∀ x, inv x → awp E c (thenQ (fun σ'' => ∃ y, inv y ∧ m y < m x ∧ Weak σ'' (st y)) Q) (st x)) : LoopF E c Q s t σ := by
  refine ⟨fun n σ' => ∃ x, inv x ∧ m x = n ∧ σ' = st x, ⟨m x0, st x0, hw, x0, h0, rfl, rfl⟩, ?_⟩
  rintro n _ ⟨x, hx, rfl, rfl⟩
  have := hs x hx
  have e : (fun σ'' => ∃ mm σ0, mm < m x ∧ Weak σ'' σ0 ∧ ∃ x, inv x ∧ m x = mm ∧ σ0 = st x) = (fun σ'' => ∃ y, inv y ∧ m y < m x ∧ Weak σ'' (st y)) := by
    funext σ''
    apply propext
    constructor
    · rintro ⟨mm, _, h1, h2, y, h3, rfl, rfl⟩; exact ⟨y, h3, h1, h2⟩
    · rintro ⟨y, h3, h1, h2⟩; exact ⟨_, _, h1, h2, y, h3, rfl, rfl⟩
  rw [e]
  exact this

/-- Built values. -/
theorem aw11 :
    (∀ (ev : Operand → AV) cs, fillA ev cs [] = some cs) ∧
    (∀ (ev : Operand → AV) cs off n x rest, fillA ev cs ((off, n, x) :: rest) = if ((ev x).sure = true ∧ (ev x).cells.length = n) ∧ off + n ≤ cs.length then fillA ev (setMany cs off (ev x).cells) rest else none) ∧
    (∀ cs off, setMany cs off [] = cs) ∧ (∀ cs off v l, setMany cs off (v :: l) = setMany (cs.set off v) (off + 1) l) ∧
    (∀ k n, AV.sure (.lit (.int k n)) = true) ∧ (∀ b, AV.sure (.lit (.bool b)) = true) ∧ (∀ b, AV.sure (.lit (.string b)) = true) ∧ (AV.sure (.lit .nilIface) = true) ∧ (AV.sure (.lit .nilFunc) = true) ∧
    (∀ p, AV.sure (.lit (.pointer p)) = true) ∧ (∀ p, AV.sure (.lit (.map p)) = true) ∧ (∀ c es, AV.sure (.sl c es) = true) ∧ (∀ cs, AV.sure (.cp cs) = true) ∧ (∀ a b, AV.sure (.ref a b) = true) ∧
    (∀ a b c d, AV.sure (.vw a b c d) = true) ∧ (∀ a b c, AV.sure (.fn a b c) = true) ∧ (∀ a b, AV.sure (.ifc a b) = true) ∧ (∀ cs, AV.sure (.agg cs) = true) ∧
    (∀ {α : Type} (a : α) l, (a :: l).length = l.length + 1) ∧ (∀ {α : Type}, ([] : List α).length = 0) ∧
    (∀ {α : Type} (a b : α) l, (a :: l).set 0 b = b :: l) ∧ (∀ {α : Type} (a b : α) l n, (a :: l).set (n + 1) b = a :: l.set n b) ∧
    (∀ p : Prop, (True ∧ p) = p) ∧ (∀ p : Prop, (p ∧ True) = p) ∧ (∀ a b c d, AV.cells (.vw a b c d) = [.vw a b c d]) ∧ (∀ a b, AV.cells (.ifc a b) = [.ifc a b]) ∧ (∀ a, AV.cells (.cp a) = [.cp a]) := by
  refine ⟨fun _ _ => rfl, fun ev cs off n x rest => ?_, fun _ _ => rfl, fun _ _ _ _ => rfl, fun _ _ => rfl, fun _ => rfl, fun _ => rfl, rfl, rfl, fun _ => rfl, fun _ => rfl, fun _ _ => rfl, fun _ => rfl, fun _ _ => rfl, fun _ _ _ _ => rfl, fun _ _ _ => rfl, fun _ _ => rfl, fun _ => rfl,
    fun _ _ => rfl, rfl, fun _ _ _ => rfl, fun _ _ _ _ => rfl, fun _ => by simp, fun _ => by simp, fun _ _ _ _ => rfl, fun _ _ => rfl, fun _ => rfl⟩
  simp only [fillA, and_assoc]

/-- Whether values are of one cell. -/
theorem aw12 :
    (∀ k n, AV.one (.lit (.int k n)) = true) ∧ (∀ b, AV.one (.lit (.bool b)) = true) ∧ (∀ b, AV.one (.lit (.string b)) = true) ∧ (AV.one (.lit .nilIface) = true) ∧ (∀ c es, AV.one (.sl c es) = true) ∧ (∀ a b, AV.one (.ref a b) = true) ∧
    (∀ cs, AV.one (.cp cs) = true) ∧ (∀ a b, AV.one (.ifc a b) = true) ∧ (∀ a b c d, AV.one (.vw a b c d) = true) ∧
    (∀ {α : Type} (p : α → Bool), List.all [] p = true) ∧ (∀ {α : Type} (p : α → Bool) a l, List.all (a :: l) p = (p a && List.all l p)) ∧ (∀ b, (true && b) = b) ∧ (∀ b, (false && b) = false) := by
  refine ⟨fun _ _ => rfl, fun _ => rfl, fun _ => rfl, rfl, fun _ _ => rfl, fun _ _ => rfl, fun _ => rfl, fun _ _ => rfl, fun _ _ _ _ => rfl, fun _ => rfl, fun _ _ _ => rfl, fun _ => rfl, fun _ => rfl⟩

theorem aw14 :
    (∀ c es, argElems (.sl c es) = some es) ∧ (∀ b, argElems (.lit (.string b)) = some (b.data.toList.map fun b => .lit (.int .u8 b.toNat))) ∧
    (nilness 0 (.lit (.pointer none)) = some true) ∧ (∀ a b, nilness 0 (.ref a b) = some false) ∧ (∀ a, nilness 0 (.cp a) = some false) ∧ (nilness 1 (.lit .nilFunc) = some true) ∧ (∀ a b c, nilness 1 (.fn a b c) = some false) ∧
    (nilness 2 (.lit .nilIface) = some true) ∧ (∀ t v, nilness 2 (.ifc t v) = some false) ∧ (nilness 3 (.lit (.map none)) = some true) ∧ (∀ b, (false ^^ b) = b) ∧ (∀ b, (true ^^ b) = !b) := by
  refine ⟨fun _ _ => rfl, fun _ => rfl, rfl, fun _ _ => rfl, fun _ => rfl, rfl, fun _ _ _ => rfl, rfl, fun _ _ => rfl, rfl, fun b => by cases b <;> rfl, fun b => by cases b <;> rfl⟩

theorem aw15 :
    (∀ σ u n rs K t, rvsF σ (.cell u (some n) :: rs) K t = mPtr (look σ.tmps u) (fun id off => mObj σ.heap[id]? (fun l => Need (off + n ≤ l.length) (rvsF σ rs (fun vs => K (.agg (((l.drop off).take n).map AV.strip) :: vs)) .t) .t) .t) (fun _ => False) .t .t) ∧
    (∀ σ u rs K t, rvsF σ (.cell u none :: rs) K t = mPtr (look σ.tmps u) (fun id off => mObj σ.heap[id]? (fun l => mOpt l[off]? (fun v => rvsF σ rs (fun vs => K (v.strip :: vs)) .t) .t) .t) (fun _ => False) .t .t) := by
  constructor
  · intro σ u n rs K t
    simp only [rvsF, rvs, rv, mPtr, mObj]
    cases look σ.tmps u with
    | ref a b => simp only; cases σ.heap[a]? with
      | none => rfl
      | some o => cases o <;> rfl
    | _ => rfl
  · intro σ u rs K t
    simp only [rvsF, rvs, rv, mPtr, mObj, mOpt]
    cases look σ.tmps u with
    | ref a b => simp only; cases σ.heap[a]? with
      | none => rfl
      | some o => cases o with
        | gone => rfl
        | cells l => simp only; cases l[b]? <;> rfl
    | _ => rfl

theorem aw16 :
    (∀ (E : Env) σ len k n x i K s t, vF E σ (.indexArr len k (some n) x i) K s t = mAgg (σ.ev E x) (fun cs => mInt (σ.ev E i) (fun _ j => Need ((0 ≤ j ∧ j < len) ∧ len * k ≤ cs.length ∧ 0 < k) (K (.agg ((cs.drop (j.toNat * k)).take n))) .t) .t) .t) ∧
    (∀ (E : Env) σ len k x i K s t, vF E σ (.indexArr len k none x i) K s t = mAgg (σ.ev E x) (fun cs => mInt (σ.ev E i) (fun _ j => Need ((0 ≤ j ∧ j < len) ∧ len * k ≤ cs.length ∧ 0 < k) (Elem cs (j.toNat * k) (fun e => K e.strip) .t) .t) .t) .t) := by
  constructor
  · intro E σ len k n x i K s t
    simp only [vF, vop, mAgg, mInt]
    cases ASt.ev E σ x with
    | agg cs => simp only; cases ASt.ev E σ i with
      | lit v => cases v <;> first | rfl | (simp only [Need]; exact propext ⟨fun h => ⟨⟨h.1, h.2.2⟩, h.2.1⟩, fun h => ⟨h.1.1, h.2, h.1.2⟩⟩)
      | _ => rfl
    | _ => rfl
  · intro E σ len k x i K s t
    simp only [vF, vop, mAgg, mInt]
    cases ASt.ev E σ x with
    | agg cs => simp only; cases ASt.ev E σ i with
      | lit v => cases v <;> first | rfl | (simp only [Need, Elem]; exact propext ⟨fun h => ⟨⟨h.1, h.2.2⟩, h.2.1⟩, fun h => ⟨h.1.1, h.2, h.1.2⟩⟩)
      | _ => rfl
    | _ => rfl

theorem Fin.here {h : List AObj} {n : Nat} {v : AV} {Q : ARes → List AObj → Prop} {t} (hn : n ≤ h.length) (hc : Closed h) (hu : AV.under h.length v = true) (hq : Q (.ret v) h) : Fin h n v Q t := ⟨h, [], by simp, hn, hc, hu, hq⟩
theorem Fin.junk {h h' junk : List AObj} {n : Nat} {v : AV} {Q : ARes → List AObj → Prop} {t} (he : h' = h ++ junk) (hn : n ≤ h.length) (hc : Closed h) (hu : AV.under h.length v = true) (hq : Q (.ret v) h) : Fin h' n v Q t := ⟨h, junk, he, hn, hc, hu, hq⟩

/-- An operation of a draw region behind a guard: what comes next stays shut. -/
theorem aw17 : (∀ (E : Env) σ o K, adop E (ASt.heap σ) (ASt.ev E σ) o K = adopF E σ o K .t .t) := fun _ _ _ _ => rfl

def mBld (v : AV) (K : List AV → Prop) (_ : Tag K) : Prop := match v with | .agg (.lit (.pointer none) :: .lit (.slice none 0 0) :: rest) => K rest | _ => False

/-- A new record that begins with a builder. -/
theorem aw18 : (∀ (E : Env) σ d e te x K Q r s t, aopF E σ d K Q (.boxB e te x) r s t = mBld (σ.ev E x) (fun rest => K ({ σ with heap := σ.heap ++ [AObj.cells (.bp e :: .buf te [] :: rest.map AV.strip)] }.putO d (.ref σ.heap.length 0))) .t) ∧
    (∀ rest K t, mBld (.agg (.lit (.pointer none) :: .lit (.slice none 0 0) :: rest)) K t = K rest) := ⟨fun _ _ _ _ _ _ _ _ _ _ _ => rfl, fun _ _ _ => rfl⟩

end Go.Abs
