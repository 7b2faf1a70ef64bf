/- The lesser and the greater of two numbers, over symbolic states. Of whatever program. -/
import Derived.Test.YthbhjnmkbmmcnaaHg
namespace Go.Proofs.Ythbhjnmkbmmcnaa
open Go.RowKit Go.IntWalk
set_option linter.unusedVariables false
set_option linter.unusedSectionVars false

section
variable {P : Program} {w0 : World} {D : Nat → Prop} {n : Nat} [Dfr] {τ : Tm} {H : List Item} {o : Oper}
theorem Yld.minI {x y : Operand} {tys : Array TypeId} {k k' : IntKind} {p q : Int} (ho : o.op = .call { callee := .builtin .min, args := #[x, y], argTypes := tys }) (hx : evl τ x = some (.int k p)) (hy : evl τ y = some (.int k' q)) : Yld P w0 D n o τ H (.int k (min p q)) := ⟨fun a w h hw => by
  have e : (if q < p then q else p) = min p q := by omega
  simp [execOp, ho, resolve, invoke, builtin, h.ev hx, h.ev hy, Builtin.min_, Builtin.min2, e]⟩
theorem Yld.maxI {x y : Operand} {tys : Array TypeId} {k k' : IntKind} {p q : Int} (ho : o.op = .call { callee := .builtin .max, args := #[x, y], argTypes := tys }) (hx : evl τ x = some (.int k p)) (hy : evl τ y = some (.int k' q)) : Yld P w0 D n o τ H (.int k (max p q)) := ⟨fun a w h hw => by
  have e : (if q > p then q else p) = max p q := by omega
  simp [execOp, ho, resolve, invoke, builtin, h.ev hx, h.ev hy, Builtin.max_, Builtin.max2, e]⟩
end
end Go.Proofs.Ythbhjnmkbmmcnaa
