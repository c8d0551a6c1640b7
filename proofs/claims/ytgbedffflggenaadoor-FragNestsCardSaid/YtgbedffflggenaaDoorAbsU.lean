/- Reckoning with states: bundles of equations for simp. What is still to come is a 'fixed' argument (a later argument's type names it): simp does not look into it. -/
import Derived.Test.YtgbedffflggenaaDoorAbsS
set_option linter.all false
namespace Go.Abs
open Go Go.RowKit

inductive Tag {α : Type} (a : α) : Type where
  | t

def BrF (b : Bool) (A B : Prop) (_ : Tag A) (_ : Tag B) : Prop := (b = true → A) ∧ (b = false → B)
def Need (P : Prop) (A : Prop) (_ : Tag A) : Prop := P ∧ A
def awpF (E : Env) (c : ACode) (Q : AEx → ASt → Prop) (_ : Tag c) (_ : Tag Q) (σ : ASt) : Prop := awp E c Q σ
def aopsF (E : Env) (K : ASt → Prop) (Q : AEx → ASt → Prop) (ops : List AOper) (_ : Tag K) (_ : Tag Q) (_ : Tag ops) (σ : ASt) : Prop := aops E K Q ops σ
def adrawF (E : Env) (K : ASt → Prop) (ops : List AOper) (_ : Tag K) (_ : Tag ops) (σ : ASt) : Prop := adraw E K ops σ
def aopF (E : Env) (σ : ASt) (d : Option Nat) (K : ASt → Prop) (Q : AEx → ASt → Prop) (o : AOp) (_ : Tag K) (_ : Tag Q) (_ : Tag o) : Prop := aop E σ d K Q o
def adopF (E : Env) (σ : ASt) (o : AOp) (K : AV → Prop) (_ : Tag o) (_ : Tag K) : Prop := adop E σ.heap (σ.ev E) o K
def vF (E : Env) (σ : ASt) (o : AOp) (K : AV → Prop) (_ : Tag o) (_ : Tag K) : Prop := vop σ.heap (σ.ev E) o K
def binF (op : BinOp) (u v : Value) (K : Value → Prop) (_ : Tag K) : Prop := binW op u v K
def EvF (E : Env) (f : FuncId) (args : List AV) (h : List AObj) (Q : ARes → List AObj → Prop) (_ : Tag Q) : Prop := Ev E f args h Q
def EvRF (E : Env) (f : FuncId) (args : List AV) (h : List AObj) (K : AV → Prop) (_ : Tag K) : Prop := ∃ v, EvR E f args h v ∧ K v.strip
def rvsF (σ : ASt) (rs : List ARV) (K : List AV → Prop) (_ : Tag K) : Prop := rvs σ rs K
def LoopF (E : Env) (c : ACode) (Q : AEx → ASt → Prop) (_ : Tag c) (_ : Tag Q) (σ : ASt) : Prop := awp E (.loop c) Q σ

/-! ### Taking values apart -/
def mBool (v : AV) (K : Bool → Prop) (_ : Tag K) : Prop := match v with | .lit (.bool b) => K b | _ => False
def mInt (v : AV) (K : IntKind → Int → Prop) (_ : Tag K) : Prop := match v with | .lit (.int k n) => K k n | _ => False
def mStr (v : AV) (K : ByteArray → Prop) (_ : Tag K) : Prop := match v with | .lit (.string s) => K s | _ => False
def mLit (v : AV) (K : Value → Prop) (_ : Tag K) : Prop := match v with | .lit u => K u | _ => False
def mAgg (v : AV) (K : List AV → Prop) (_ : Tag K) : Prop := match v with | .agg u => K u | _ => False
def mTup (v : AV) (K : List AV → Prop) (_ : Tag K) : Prop := match v with | .tup u => K u | _ => False
def mFn (v : AV) (K : FuncId → List AV → List AV → Prop) (_ : Tag K) : Prop := match v with | .fn (.func f) a b => K f a b | _ => False
def mIfc (v : AV) (K : TypeId → AV → Prop) (_ : Tag K) : Prop := match v with | .ifc t u => K t u | _ => False
def mSl (v : AV) (K : Cap → List AV → Prop) (K' : Nat → Nat → Nat → Nat → Prop) (_ : Tag K) (_ : Tag K') : Prop := match v with | .sl c es => K c es | .vw a b c d => K' a b c d | _ => False
def mPtr (v : AV) (K : Nat → Nat → Prop) (K' : List AV → Prop) (_ : Tag K) (_ : Tag K') : Prop := match v with | .ref a b => K a b | .cp cs => K' cs | _ => False
def mOpt (v : Option AV) (K : AV → Prop) (_ : Tag K) : Prop := match v with | some u => K u | none => False
def mObj (v : Option AObj) (K : List AV → Prop) (_ : Tag K) : Prop := match v with | some (.cells u) => K u | _ => False
def mLst (v : Option (List AV)) (K : List AV → Prop) (_ : Tag K) : Prop := match v with | some u => K u | none => False
def mByt (v : Option (List UInt8)) (K : List UInt8 → Prop) (_ : Tag K) : Prop := match v with | some u => K u | none => False
def mNil (v : AV) (K : AV → Prop) (_ : Tag K) : Prop := match v with | .ref id off => K (.ref id off) | .cp cs => K (.cp cs) | .fn (.func f) a b => K (.fn (.func f) a b) | .ifc t v => K (.ifc t v) | _ => False
def mOb (a : Option Bool) (K : Bool → Prop) (_ : Tag K) : Prop := match a with | some b => K b | none => False
def mNn (a b : Option Bool) (K : Bool → Prop) (_ : Tag K) : Prop := match a, b with | some true, some b => K b | some false, some true => K false | _, _ => False
/-- An element. -/
def Elem (es : List AV) (n : Nat) (F : AV → Prop) (_ : Tag F) : Prop := ∀ e, es[n]? = some e → F e
def ElemT {α : Type} (es : List α) (n : Nat) (F : α → Prop) (_ : Tag F) : Prop := ∀ e, es[n]? = some e → F e
def Byte (s : ByteArray) (n : Nat) (F : UInt8 → Prop) (_ : Tag F) : Prop := ∀ e, s[n]? = some e → F e
def mGd (g : GuardIs) (K : Bool → Prop) (K' : Prop) (_ : Tag K) (_ : Tag K') : Prop := match g with | .yes b => K b | .never => K' | .unknown => False

theorem BrF.mk {b : Bool} {A B : Prop} {s t} (h : b = true → A) (h' : b = false → B) : BrF b A B s t := ⟨h, h'⟩
theorem BrF.dec {p : Prop} [Decidable p] {A B : Prop} {s t} (h : p → A) (h' : ¬ p → B) : BrF (decide p) A B s t := ⟨fun hb => h (of_decide_eq_true hb), fun hb => h' (of_decide_eq_false hb)⟩
theorem Need.mk {P A : Prop} {t} (h : P) (h' : A) : Need P A t := ⟨h, h'⟩
theorem EvF.use {E : Env} {f args h} {Q Q' : ARes → List AObj → Prop} {t} (hh : Ev E f args h Q) (hq : ∀ r h', Q r h' → Q' r h') : EvF E f args h Q' t := hh.mono hq
theorem EvF.ret {E : Env} {f args h v} {Q' : ARes → List AObj → Prop} {t} (hh : EvR E f args h v) (hq : Q' (.ret v) h) : EvF E f args h Q' t := hh.mono fun r h' ⟨h1, h2⟩ => by subst h1 h2; exact hq
theorem EvRF.ret {E : Env} {f args h v} {K : AV → Prop} {t} (hh : EvR E f args h v) (hq : K v.strip) : EvRF E f args h K t := ⟨v, hh, hq⟩

/-- The function's end, when it returns. -/
def Fin (h : List AObj) (n : Nat) (v : AV) (Q : ARes → List AObj → Prop) (_ : Tag Q) : Prop := ∃ h1 junk, h = h1 ++ junk ∧ n ≤ h1.length ∧ Closed h1 ∧ AV.under h1.length v = true ∧ Q (.ret v) h1
def FinP (h : List AObj) (n : Nat) (v : AV) (Q : ARes → List AObj → Prop) (_ : Tag Q) : Prop := ∃ h1 junk, h = h1 ++ junk ∧ n ≤ h1.length ∧ Closed h1 ∧ AV.under h1.length v = true ∧ Q (.panic v) h1
def FinS (vs : List AV) (K : AV → Prop) (_ : Tag K) : Prop := match vs with | [v] => K v | vs => K (.tup vs)

theorem Fin.same {h junk : List AObj} {v : AV} {Q : ARes → List AObj → Prop} {t} (hc : Closed h) (hu : AV.under h.length v = true) (hq : Q (.ret v) h) : Fin (h ++ junk) h.length v Q t := ⟨h, junk, rfl, Nat.le_refl _, hc, hu, hq⟩
theorem Fin.same0 {h : List AObj} {v : AV} {Q : ARes → List AObj → Prop} {t} (hc : Closed h) (hu : AV.under h.length v = true) (hq : Q (.ret v) h) : Fin h h.length v Q t := ⟨h, [], by simp, Nat.le_refl _, hc, hu, hq⟩

/-- The control. -/
theorem aw1 :
    (∀ A B s t, BrF true A B s t = A) ∧ (∀ A B s t, BrF false A B s t = B) ∧ (∀ A t, Need True A t = A) ∧
    (∀ (E : Env) c Q σ, awp E c Q σ = awpF E c Q .t .t σ) ∧
    (∀ (E : Env) Q s t σ, awpF E .skip Q s t σ = Q .normal σ) ∧
    (∀ (E : Env) ops Q s t σ, awpF E (.region ops) Q s t σ = aopsF E (Q .normal) Q ops .t .t .t σ) ∧
    (∀ (E : Env) ops Q s t σ, awpF E (.draw ops) Q s t σ = adrawF E (Q .normal) ops .t .t σ) ∧
    (∀ (E : Env) x y Q s t σ, awpF E (.seq x y) Q s t σ = awpF E x (thenQ (awp E y Q) Q) .t .t σ) ∧
    (∀ (E : Env) c x y Q s t σ, awpF E (.cond c x y) Q s t σ = mBool (ASt.ev E σ c) (fun b => BrF b (awp E x Q σ) (awp E y Q σ) .t .t) .t) ∧
    (∀ (E : Env) id c Q s t σ, awpF E (.block id c) Q s t σ = awpF E c (blockQ id Q) .t .t σ) ∧
    (∀ (E : Env) c Q s t σ, awpF E (.loop c) Q s t σ = LoopF E c Q .t .t σ) ∧
    (∀ (E : Env) id Q s t σ, awpF E (.exit id) Q s t σ = Q (.exit id) σ) ∧
    (∀ (E : Env) Q s t σ, awpF E .ret Q s t σ = Q .ret σ) ∧
    (∀ K Q σ, thenQ K Q .normal σ = K σ) ∧ (∀ K Q id σ, thenQ K Q (.exit id) σ = Q (.exit id) σ) ∧ (∀ K Q σ, thenQ K Q .ret σ = Q .ret σ) ∧ (∀ K Q v σ, thenQ K Q (.panic v) σ = Q (.panic v) σ) ∧
    (∀ id Q σ, blockQ id Q .normal σ = Q .normal σ) ∧ (∀ id Q id' σ, blockQ id Q (.exit id') σ = if id' = id then Q .normal σ else Q (.exit id') σ) ∧ (∀ id Q σ, blockQ id Q .ret σ = Q .ret σ) ∧ (∀ id Q v σ, blockQ id Q (.panic v) σ = Q (.panic v) σ) := by
  refine ⟨?_, ?_, ?_, ?_⟩
  · intro A B s t; simp [BrF]
  · intro A B s t; simp [BrF]
  · intro A t; simp [Need]
  refine ⟨fun _ _ _ _ => rfl, fun _ _ _ _ _ => rfl, fun _ _ _ _ _ _ => rfl, fun _ _ _ _ _ _ => rfl, fun _ _ _ _ _ _ _ => rfl, ?_, fun _ _ _ _ _ _ _ => rfl, fun _ _ _ _ _ _ => rfl, fun _ _ _ _ _ _ => rfl, fun _ _ _ _ _ => rfl, fun _ _ _ => rfl, fun _ _ _ _ => rfl, fun _ _ _ => rfl, fun _ _ _ _ => rfl,
    fun _ _ _ => rfl, fun _ _ _ _ => rfl, fun _ _ _ => rfl, fun _ _ _ _ => rfl⟩
  intro E c x y Q s t σ
  simp only [awpF, awp, mBool]
  cases ASt.ev E σ c with
  | lit v => cases v <;> rfl
  | _ => rfl

/-- Regions. -/
theorem aw2 :
    (∀ (E : Env) K Q l σ, aops E K Q l σ = aopsF E K Q l .t .t .t σ) ∧
    (∀ (E : Env) K Q r s t σ, aopsF E K Q [] r s t σ = K σ) ∧
    (∀ (E : Env) K Q d op rest r s t σ, aopsF E K Q (⟨d, op, none⟩ :: rest) r s t σ = aopF E σ d (fun σ' => aops E K Q rest σ') Q op .t .t .t) ∧
    (∀ (E : Env) K Q d op u want rest r s t σ, aopsF E K Q (⟨d, op, some (u, want)⟩ :: rest) r s t σ = mGd (guardIs (look σ.tmps u))
      (fun b => BrF (b == want) (aop E σ d (fun σ' => aops E K Q rest σ') Q op) (aops E K Q rest (σ.putO d (.lit undef))) .t .t)
      (aops E K Q rest (σ.putO d (.lit undef))) .t .t) ∧
    (∀ (E : Env) K l σ, adraw E K l σ = adrawF E K l .t .t σ) ∧
    (∀ (E : Env) K r s σ, adrawF E K [] r s σ = K σ) ∧
    (∀ (E : Env) K d op rest r s σ, adrawF E K (⟨d, op, none⟩ :: rest) r s σ = adopF E σ op (fun v => adraw E K rest (σ.putO d v)) .t .t) ∧
    (∀ (E : Env) K d op u want rest r s σ, adrawF E K (⟨d, op, some (u, want)⟩ :: rest) r s σ = mGd (guardIs (look σ.tmps u))
      (fun b => BrF (b == want) (adop E σ.heap (σ.ev E) op fun v => adraw E K rest (σ.putO d v)) (adraw E K rest (σ.putO d (.lit undef))) .t .t)
      (adraw E K rest (σ.putO d (.lit undef))) .t .t) ∧
    (∀ (E : Env) σ d K Q o, aop E σ d K Q o = aopF E σ d K Q o .t .t .t) ∧
    (∀ (E : Env) t h K o, adop E h (ASt.ev E ⟨t, h⟩) o K = adopF E ⟨t, h⟩ o K .t .t) ∧
    (∀ b K K' s t, mGd (.yes b) K K' s t = K b) ∧ (∀ K K' s t, mGd .never K K' s t = K') := by
  refine ⟨fun _ _ _ _ _ => rfl, fun _ _ _ _ _ _ _ => rfl, fun _ _ _ _ _ _ _ _ _ _ => rfl, ?_, fun _ _ _ _ => rfl, fun _ _ _ _ _ => rfl, fun _ _ _ _ _ _ _ _ => rfl, ?_, fun _ _ _ _ _ _ => rfl, fun _ _ _ _ _ => rfl, fun _ _ _ _ _ => rfl, fun _ _ _ _ => rfl⟩
  · intro E K Q d op u want rest r s t σ
    simp only [aopsF, aops, mGd]
    cases guardIs (look σ.tmps u) <;> rfl
  · intro E K d op u want rest r s σ
    simp only [adrawF, adraw, mGd]
    cases guardIs (look σ.tmps u) <;> rfl

/-- The function's end. -/
theorem aw3 :
    (∀ n ars Q σ, fnPost n ars Q .ret σ = rvsF σ ars (fun vs => FinS vs (fun v => Fin σ.heap n v Q .t) .t) .t) ∧
    (∀ n ars Q σ, fnPost n ars Q .normal σ = rvsF σ ars (fun vs => FinS vs (fun v => Fin σ.heap n v Q .t) .t) .t) ∧
    (∀ n ars Q v σ, fnPost n ars Q (.panic v) σ = FinP σ.heap n v Q .t) ∧
    (∀ σ K t, rvsF σ [] K t = K []) ∧ (∀ σ u rs K t, rvsF σ (.tmp u :: rs) K t = rvsF σ rs (fun vs => K ((look σ.tmps u).strip :: vs)) .t) ∧
    (∀ v K t, FinS [v] K t = K v) ∧ (∀ K t, FinS [] K t = K (.tup [])) ∧ (∀ v v' vs K t, FinS (v :: v' :: vs) K t = K (.tup (v :: v' :: vs))) ∧
    (∀ i a as, numbered i (a :: as) = (i, a) :: numbered (i + 1) as) ∧ (∀ i, numbered i [] = []) := by
  refine ⟨?_, ?_, fun _ _ _ _ _ => rfl, fun _ _ _ => rfl, fun _ _ _ _ _ => rfl, fun _ _ _ => rfl, fun _ _ => rfl, fun _ _ _ _ _ => rfl, fun _ _ _ => rfl, fun _ => rfl⟩ <;> (intro n ars Q σ; rfl)

/-- The states. -/
theorem aw4 :
    (∀ t h i v, ASt.putO ⟨t, h⟩ (some i) v = ⟨(i, v) :: t, h⟩) ∧ (∀ σ v, ASt.putO σ none v = σ) ∧ (∀ t h i v, ASt.put ⟨t, h⟩ i v = ⟨(i, v) :: t, h⟩) ∧
    (∀ i v l j, look ((i, v) :: l) j = if i = j then v else look l j) ∧ (∀ j, look [] j = .any) ∧
    (∀ (E : Env) σ t, ASt.ev E σ (.tmp t) = (look σ.tmps t).strip) ∧ (∀ (E : Env) σ v, ASt.ev E σ (.const v) = ofConst v) ∧ (∀ (E : Env) σ f, ASt.ev E σ (.func f) = .fn (.func f) [] []) ∧
    (∀ k n, ofConst (.int k n) = .lit (.int k n)) ∧ (∀ b, ofConst (.bool b) = .lit (.bool b)) ∧ (∀ s, ofConst (.string s) = .lit (.string s)) ∧ (ofConst (.slice none 0 0) = .sl .full []) ∧
    (ofConst .nilIface = .lit .nilIface) ∧ (ofConst .nilFunc = .lit .nilFunc) ∧ (ofConst (.pointer none) = .lit (.pointer none)) ∧ (ofConst (.map none) = .lit (.map none)) ∧ (∀ cs, ofConst (.agg cs) = .agg (cs.toList.map ofCell)) ∧
    (∀ v, AV.strip (.lit v) = .lit v) ∧ (∀ v, AV.strip (.agg v) = .agg v) ∧ (∀ v, AV.strip (.tup v) = .tup v) ∧ (∀ v, AV.strip (.cp v) = .cp v) ∧ (∀ a b, AV.strip (.ref a b) = .ref a b) ∧ (∀ a b c d, AV.strip (.vw a b c d) = .vw a b c d) ∧
    (∀ a b c, AV.strip (.fn a b c) = .fn a b c) ∧ (∀ a b, AV.strip (.ifc a b) = .ifc a b) ∧ (AV.strip .any = .any) ∧ (∀ es, AV.strip (.sl .unk es) = .sl .unk es) ∧ (∀ es, AV.strip (.sl .full es) = .sl .full es) ∧ (∀ k es, AV.strip (.sl (.own k) es) = .sl .unk es) ∧
    (∀ b, guardIs (.lit (.bool b)) = .yes b) ∧ (∀ v, guardIs (.lit (.tuple v)) = .never) ∧ (undef = .tuple #[]) ∧
    (∀ k n, ofCell (.int k n) = .lit (.int k n)) ∧ (∀ b, ofCell (.bool b) = .lit (.bool b)) ∧ (∀ s, ofCell (.string s) = .lit (.string s)) ∧ (ofCell (.slice none 0 0) = .sl .full []) ∧
    (∀ cs, AV.cells (.agg cs) = cs) ∧ (∀ v, AV.cells (.lit v) = [.lit v]) ∧ (∀ c v, AV.cells (.sl c v) = [.sl c v]) ∧ (∀ a b, AV.cells (.ref a b) = [.ref a b]) ∧ (∀ a b c, AV.cells (.fn a b c) = [.fn a b c]) := by
  refine ⟨fun _ _ _ _ => rfl, fun _ _ => rfl, fun _ _ _ _ => rfl, fun _ _ _ _ => rfl, fun _ => rfl, fun _ _ _ => rfl, fun _ _ _ => rfl, fun _ _ _ => rfl, fun _ _ => rfl, fun _ => rfl, fun _ => rfl, rfl, rfl, rfl, rfl, rfl, fun _ => rfl,
    fun _ => rfl, fun _ => rfl, fun _ => rfl, fun _ => rfl, fun _ _ => rfl, fun _ _ _ _ => rfl, fun _ _ _ => rfl, fun _ _ => rfl, rfl, fun _ => rfl, fun _ => rfl, fun _ _ => rfl, fun _ => rfl, fun _ => rfl, rfl, fun _ _ => rfl, fun _ => rfl, fun _ => rfl, rfl,
    fun _ => rfl, fun _ => rfl, fun _ _ => rfl, fun _ _ => rfl, fun _ _ _ => rfl⟩

/-- Values taken apart. -/
theorem aw5 :
    (∀ b K t, mBool (.lit (.bool b)) K t = K b) ∧ (∀ k n K t, mInt (.lit (.int k n)) K t = K k n) ∧ (∀ s K t, mStr (.lit (.string s)) K t = K s) ∧ (∀ v K t, mLit (.lit v) K t = K v) ∧ (∀ v K t, mAgg (.agg v) K t = K v) ∧ (∀ v K t, mTup (.tup v) K t = K v) ∧
    (∀ f a b K t, mFn (.fn (.func f) a b) K t = K f a b) ∧ (∀ a b K t, mIfc (.ifc a b) K t = K a b) ∧ (∀ c es K K' s t, mSl (.sl c es) K K' s t = K c es) ∧ (∀ a b c d K K' s t, mSl (.vw a b c d) K K' s t = K' a b c d) ∧
    (∀ a b K K' s t, mPtr (.ref a b) K K' s t = K a b) ∧ (∀ a K K' s t, mPtr (.cp a) K K' s t = K' a) ∧ (∀ v K t, mOpt (some v) K t = K v) ∧ (∀ v K t, mObj (some (.cells v)) K t = K v) ∧ (∀ v K t, mLst (some v) K t = K v) ∧ (∀ v K t, mByt (some v) K t = K v) ∧
    (∀ a b K t, mNil (.ref a b) K t = K (.ref a b)) ∧ (∀ a K t, mNil (.cp a) K t = K (.cp a)) ∧ (∀ f a b K t, mNil (.fn (.func f) a b) K t = K (.fn (.func f) a b)) ∧ (∀ a b K t, mNil (.ifc a b) K t = K (.ifc a b)) ∧
    (∀ b K t, mNn (some true) (some b) K t = K b) ∧ (∀ K t, mNn (some false) (some true) K t = K false) ∧
    (∀ {α : Type} (f : α → AV) xs n F t, Elem (List.map f xs) n F t = ElemT xs n (fun x => F (f x)) .t) := by
  refine ⟨fun _ _ _ => rfl, fun _ _ _ _ => rfl, fun _ _ _ => rfl, fun _ _ _ => rfl, fun _ _ _ => rfl, fun _ _ _ => rfl, fun _ _ _ _ _ => rfl, fun _ _ _ _ => rfl, fun _ _ _ _ _ _ => rfl, fun _ _ _ _ _ _ _ _ => rfl, fun _ _ _ _ _ _ => rfl, fun _ _ _ _ _ => rfl, fun _ _ _ => rfl, fun _ _ _ => rfl, fun _ _ _ => rfl, fun _ _ _ => rfl,
    fun _ _ _ _ => rfl, fun _ _ _ => rfl, fun _ _ _ _ _ => rfl, fun _ _ _ _ => rfl, fun _ _ _ => rfl, fun _ _ => rfl, ?_⟩
  intro α f xs n F t
  apply propext
  simp only [Elem, ElemT, List.getElem?_map, Option.map_eq_some_iff]
  constructor
  · intro h e he; exact h _ ⟨e, he, rfl⟩
  · rintro h e ⟨x, hx, rfl⟩; exact h x hx

end Go.Abs
