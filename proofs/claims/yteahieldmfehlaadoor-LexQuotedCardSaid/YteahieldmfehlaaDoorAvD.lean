/- Av, part D: numbers, bools, strings; slices cut and read; 'sOp': an operation that leaves the memory alone. -/
import Derived.Test.YteahieldmfehlaaDoorAvC
namespace Go.Av
open Go.RowKit
set_option linter.unusedVariables false

def inR : IntKind → Int → Prop
  | .i8, z => -128 ≤ z ∧ z ≤ 127
  | .i16, z => -32768 ≤ z ∧ z ≤ 32767
  | .i32, z => -2147483648 ≤ z ∧ z ≤ 2147483647
  | .i64, z => -9223372036854775808 ≤ z ∧ z ≤ 9223372036854775807
  | .u8, z => 0 ≤ z ∧ z ≤ 255
  | .u16, z => 0 ≤ z ∧ z ≤ 65535
  | .u32, z => 0 ≤ z ∧ z ≤ 4294967295
  | .u64, z => 0 ≤ z ∧ z ≤ 18446744073709551615
theorem wrap_inR {k : IntKind} {z : Int} (h : inR k z) : k.wrap z = z := by
  cases k <;> simp only [inR] at h <;> simp [IntKind.wrap, IntKind.bits, IntKind.signed] <;> omega

def bitsI (op : BinOp) (k : IntKind) (x y : Int) : Int :=
  let a := BitVec.ofInt k.bits x
  let b := BitVec.ofInt k.bits y
  match op with
  | .and => k.wrap (a &&& b).toNat
  | .or => k.wrap (a ||| b).toNat
  | .xor => k.wrap (a ^^^ b).toNat
  | .andNot => k.wrap (a &&& ~~~b).toNat
  | _ => 0

def iadd (k : IntKind) (a b : Int) : Int := k.wrap (a + b)
def isub (k : IntKind) (a b : Int) : Int := k.wrap (a - b)
def imul (k : IntKind) (a b : Int) : Int := k.wrap (a * b)
def iquo (k : IntKind) (a b : Int) : Int := k.wrap (a.tdiv b)
def irem (a b : Int) : Int := a.tmod b
def ishl (k : IntKind) (a b : Int) : Int := k.wrap (a * 2 ^ (min b.toNat k.bits))
def ishr (k : IntKind) (a b : Int) : Int := a.fdiv (2 ^ (min b.toNat k.bits))
def ineg (k : IntKind) (a : Int) : Int := k.wrap (-a)
/-- a condition, and what stands behind it -/
def Chk (p : Prop) [K : Ko Prop] : Prop := p ∧ K.k
theorem chk_of {p : Prop} {K : Prop} (h : p) (k : K) : @Chk p ⟨K⟩ := ⟨h, k⟩
def binI (op : BinOp) (k : IntKind) (a b : Int) (K : AV → Prop) : Prop := match op with
  | .add => K (.int k (iadd k a b))
  | .sub => K (.int k (isub k a b))
  | .mul => K (.int k (imul k a b))
  | .quo => @Chk (b ≠ 0) ⟨K (.int k (iquo k a b))⟩
  | .rem => @Chk (b ≠ 0) ⟨K (.int k (irem a b))⟩
  | .and => K (.int k (bitsI .and k a b))
  | .or => K (.int k (bitsI .or k a b))
  | .xor => K (.int k (bitsI .xor k a b))
  | .andNot => K (.int k (bitsI .andNot k a b))
  | .eql => K (.bool (decide (a = b)))
  | .neq => K (.bool (!decide (a = b)))
  | .lss => K (.bool (decide (a < b)))
  | .leq => K (.bool (decide (a ≤ b)))
  | .gtr => K (.bool (decide (b < a)))
  | .geq => K (.bool (decide (b ≤ a)))
  | _ => False
def shiftI (op : BinOp) (k : IntKind) (a b : Int) (K : AV → Prop) : Prop := match op with
  | .shl => @Chk (0 ≤ b) ⟨K (.int k (ishl k a b))⟩
  | .shr => @Chk (0 ≤ b) ⟨K (.int k (ishr k a b))⟩
  | _ => False
def binS (op : BinOp) (a b : List UInt8) (K : AV → Prop) : Prop := match op with
  | .add => @Chk ((a ++ b).length ≤ 9223372036854775807) ⟨K (.str (a ++ b))⟩
  | .eql => K (.bool (decide (a = b)))
  | .neq => K (.bool (!decide (a = b)))
  | .lss => K (.bool (Op.bytesLess a b))
  | _ => False
def binB (op : BinOp) (a b : Bool) (K : AV → Prop) : Prop := match op with
  | .eql => K (.bool (a == b))
  | .neq => K (.bool (a != b))
  | _ => False

/-- what 'sOp' must give of one operation's run -/
def Gives (P : Program) (w : World) (φ : Nat → Value) (H : List AO) (K : AV → Prop) (s : Sem Value) : Prop :=
  ∃ x v, K x ∧ R w φ H x v ∧ ∀ w', Ext w w' → s.run P w' = .ok v w'
theorem Gives.mk' {P : Program} {w : World} {φ : Nat → Value} {H : List AO} {K : AV → Prop} {s : Sem Value} (x : AV) (v : Value) (h1 : K x) (h2 : R w φ H x v) (h3 : ∀ w', s.run P w' = .ok v w') : Gives P w φ H K s :=
  ⟨x, v, h1, h2, fun w' _ => h3 w'⟩

section
variable {P : Program} {w : World} {φ : Nat → Value} {H : List AO} {K : AV → Prop}

theorem binI_sound (op : BinOp) (T : TypeId) (k : IntKind) (a b : Int) (h : binI op k a b K) : Gives P w φ H K (Go.binOp op T (.int k a) (.int k b)) := by
  cases op <;> simp only [binI] at h
  case add => exact .mk' _ _ h (.int _ _) fun w' => by simp [Go.binOp, Op.intArith, iadd]
  case sub => exact .mk' _ _ h (.int _ _) fun w' => by simp [Go.binOp, Op.intArith, isub]
  case mul => exact .mk' _ _ h (.int _ _) fun w' => by simp [Go.binOp, Op.intArith, imul]
  case quo =>
    obtain ⟨h1, h4⟩ := h
    exact .mk' _ _ h4 (.int _ _) fun w' => by simp [Go.binOp, Op.intDiv, h1, iquo]
  case rem =>
    obtain ⟨h1, h4⟩ := h
    exact .mk' _ _ h4 (.int _ _) fun w' => by simp [Go.binOp, Op.intDiv, h1, irem]
  case and => exact .mk' _ _ h (.int _ _) fun w' => by simp [Go.binOp, Op.intBits, bitsI]
  case or => exact .mk' _ _ h (.int _ _) fun w' => by simp [Go.binOp, Op.intBits, bitsI]
  case xor => exact .mk' _ _ h (.int _ _) fun w' => by simp [Go.binOp, Op.intBits, bitsI]
  case andNot => exact .mk' _ _ h (.int _ _) fun w' => by simp [Go.binOp, Op.intBits, bitsI]
  case eql => exact .mk' _ _ h (.bool _) fun w' => by simp [Go.binOp, Op.intCmp]; rfl
  case neq => exact .mk' _ _ h (.bool _) fun w' => by simp [Go.binOp, Op.intCmp]; rfl
  case lss => exact .mk' _ _ h (.bool _) fun w' => by simp [Go.binOp, Op.intCmp]
  case leq => exact .mk' _ _ h (.bool _) fun w' => by simp [Go.binOp, Op.intCmp]
  case gtr => exact .mk' _ _ h (.bool _) fun w' => by simp [Go.binOp, Op.intCmp]
  case geq => exact .mk' _ _ h (.bool _) fun w' => by simp [Go.binOp, Op.intCmp]
theorem shiftI_sound (op : BinOp) (T : TypeId) (k k' : IntKind) (a b : Int) (h : shiftI op k a b K) : Gives P w φ H K (Go.binOp op T (.int k a) (.int k' b)) := by
  cases op <;> simp only [shiftI] at h
  case shl =>
    refine .mk' _ _ h.2 (.int _ _) fun w' => ?_
    have := h.1
    have : ¬ b < 0 := by omega
    simp [Go.binOp, Op.shift, this, ishl]
  case shr =>
    refine .mk' _ _ h.2 (.int _ _) fun w' => ?_
    have := h.1
    have : ¬ b < 0 := by omega
    simp [Go.binOp, Op.shift, this, ishr]
theorem binS_sound (op : BinOp) (T : TypeId) (a b : List UInt8) (h : binS op a b K) : Gives P w φ H K (Go.binOp op T (.string ⟨a.toArray⟩) (.string ⟨b.toArray⟩)) := by
  cases op <;> simp only [binS] at h
  case add =>
    refine .mk' _ _ h.2 (.str _) fun w' => ?_
    have hm : ((⟨a.toArray⟩ : ByteArray).size + (⟨b.toArray⟩ : ByteArray).size : Int) ≤ 9223372036854775807 := by
      have := h.1
      rw [List.length_append] at this
      simp [ByteArray.size]
      omega
    have e : (⟨a.toArray⟩ : ByteArray) ++ ⟨b.toArray⟩ = ⟨(a ++ b).toArray⟩ := by
      apply ByteArray.ext
      simp
    simp only [Go.binOp, Op.stringOp]
    simp [IntKind.max, IntKind.signed, IntKind.bits, hm, e]
  case eql => exact .mk' _ _ h (.bool _) fun w' => by simp [Go.binOp, Op.stringOp, Bool.beq_eq_decide_eq]
  case neq => exact .mk' _ _ h (.bool _) fun w' => by simp [Go.binOp, Op.stringOp, Bool.beq_eq_decide_eq]
  case lss => exact .mk' _ _ h (.bool _) fun w' => by simp [Go.binOp, Op.stringOp]
theorem run_equalIn_bool (d : Nat) (T : TypeId) (hT : isBoolT P T = true) (a b : Bool) (w' : World) : (Op.equalIn (d + 1) T (.bool a) (.bool b)).run P w' = .ok (a == b) w' := by
  have hu := und_of_isBoolT hT
  simp [Op.equalIn, run_underlying hu]
theorem run_equal_bool (T : TypeId) (hT : isBoolT P T = true) (a b : Bool) (w' : World) : (Op.equal T (.bool a) (.bool b)).run P w' = .ok (a == b) w' := run_equalIn_bool 9999 T hT a b w'
theorem binB_sound (op : BinOp) (T : TypeId) (hT : isBoolT P T = true) (a b : Bool) (h : binB op a b K) : Gives P w φ H K (Go.binOp op T (.bool a) (.bool b)) := by
  cases op <;> simp only [binB] at h
  case eql =>
    refine .mk' _ _ h (.bool _) fun w' => ?_
    have : Go.binOp .eql T (.bool a) (.bool b) = (do pure (.bool (← Op.equal T (.bool a) (.bool b)))) := by unfold Go.binOp; rfl
    rw [this]
    simp only [Sem.run_bind, run_equal_bool T hT, Result.andThen_ok, Sem.run_pure]
  case neq =>
    refine .mk' _ _ h (.bool _) fun w' => ?_
    have : Go.binOp .neq T (.bool a) (.bool b) = (do pure (.bool (!(← Op.equal T (.bool a) (.bool b))))) := by unfold Go.binOp; rfl
    rw [this]
    simp only [Sem.run_bind, run_equal_bool T hT, Result.andThen_ok, Sem.run_pure]
    rfl
end
end Go.Av
