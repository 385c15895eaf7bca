/- A call of a Go function as one step of a region that draws its order, for 'go_region_law'. No condition. -/
import Derived.Test.YtlekjobicpnafaaBase2
import Derived.Deep.RegionLaw
namespace Go.Proofs.Ytlekjobicpnafaa.Base
open Go Go.RowKit

theorem step_call1 {P : Program} {ops : Array Oper} {o : Oper} {a : Act} {w : World} {K : Act → World → Prop} {Q : Exit → Act → World → Prop} {E : Prop} (hgd : o.guard = none) (f : FuncId) (x : Operand) (t : TypeId)
    (ho : o.op = .call { callee := .value (.func f), args := #[x], argTypes := #[t] }) (henter : ∀ args w, (callFunc f args).run P w = .ok (.enter f args) w) {u v : Value} (hx : a.eval x = u) {R : World → Prop}
    (hC : Calls P f #[u] w fun e w' => e = .returned v ∧ R w') (h : ∀ w', R w' → K (a.put o.dst v) w') :
    if Region.wanted o (yielded ops a.tmps) = true then Oper.wp P o a w K Q else E := by
  have hw : Region.wanted o (yielded ops a.tmps) = true := by simp [Region.wanted, hgd]
  rw [if_pos hw]
  have hr : (execOp a.eval o).run P w = .ok (.enter f #[u]) w := by
    have := henter #[u] w
    have hf : a.eval (.func f) = .func (.func f) #[] #[] := rfl
    simp [execOp, ho, resolve, invoke, Deferred.ofValue, hx, hf, this]
  unfold Oper.wp
  rw [hr, Oper.upon_enter]
  refine hC.mono ?_
  rintro _ w' ⟨rfl, hR⟩
  exact h w' hR

theorem step_call1_panic {P : Program} {ops : Array Oper} {o : Oper} {a : Act} {w : World} {K : Act → World → Prop} {Q : Exit → Act → World → Prop} {E : Prop} (hgd : o.guard = none) (f : FuncId) (x : Operand) (t : TypeId)
    (ho : o.op = .call { callee := .value (.func f), args := #[x], argTypes := #[t] }) (henter : ∀ args w, (callFunc f args).run P w = .ok (.enter f args) w) {u : Value} (hx : a.eval x = u) {c : List PanicEntry} {R : World → Prop}
    (hC : Calls P f #[u] w fun e w' => e = .panicked c ∧ R w') (h : ∀ w', R w' → Q (.panic c) a w') :
    if Region.wanted o (yielded ops a.tmps) = true then Oper.wp P o a w K Q else E := by
  have hw : Region.wanted o (yielded ops a.tmps) = true := by simp [Region.wanted, hgd]
  rw [if_pos hw]
  have hr : (execOp a.eval o).run P w = .ok (.enter f #[u]) w := by
    have := henter #[u] w
    have hf : a.eval (.func f) = .func (.func f) #[] #[] := rfl
    simp [execOp, ho, resolve, invoke, Deferred.ofValue, hx, hf, this]
  unfold Oper.wp
  rw [hr, Oper.upon_enter]
  refine hC.mono ?_
  rintro _ w' ⟨rfl, hR⟩
  exact h w' hR
/-- .. that panics: nothing of the region follows. -/
theorem step_call1_ends {P : Program} {ops : Array Oper} {o : Oper} {a : Act} {w : World} {K : Act → World → Prop} {Q : Exit → Act → World → Prop} {E : Prop} (hgd : o.guard = none) (f : FuncId) (x : Operand) (t : TypeId)
    (ho : o.op = .call { callee := .value (.func f), args := #[x], argTypes := #[t] }) (henter : ∀ args w, (callFunc f args).run P w = .ok (.enter f args) w) {u : Value} (hx : a.eval x = u) {c : List PanicEntry} {R : World → Prop}
    (hC : Calls P f #[u] w fun e w' => e = .panicked c ∧ R w') (h : ∀ w', R w' → wpAny P .any #[] (fun _ _ _ => Q (.panic c) a w') 0 #[] a w') :
    if Region.wanted o (yielded ops a.tmps) = true then Oper.wp P o a w K Q else E :=
  step_call1_panic hgd f x t ho henter hx hC (fun w' hR => (h w' hR).2)
/-- .. that returns one of some values. -/
theorem step_call1_some {P : Program} {ops : Array Oper} {o : Oper} {a : Act} {w : World} {K : Act → World → Prop} {Q : Exit → Act → World → Prop} {E : Prop} (hgd : o.guard = none) (f : FuncId) (x : Operand) (t : TypeId)
    (ho : o.op = .call { callee := .value (.func f), args := #[x], argTypes := #[t] }) (henter : ∀ args w, (callFunc f args).run P w = .ok (.enter f args) w) {u : Value} (hx : a.eval x = u) {R : Value → World → Prop}
    (hC : Calls P f #[u] w fun e w' => ∃ v, e = .returned v ∧ R v w') (h : ∀ v w', R v w' → K (a.put o.dst v) w') :
    if Region.wanted o (yielded ops a.tmps) = true then Oper.wp P o a w K Q else E := by
  have hw : Region.wanted o (yielded ops a.tmps) = true := by simp [Region.wanted, hgd]
  rw [if_pos hw]
  have hr : (execOp a.eval o).run P w = .ok (.enter f #[u]) w := by
    have := henter #[u] w
    have hf : a.eval (.func f) = .func (.func f) #[] #[] := rfl
    simp [execOp, ho, resolve, invoke, Deferred.ofValue, hx, hf, this]
  unfold Oper.wp
  rw [hr, Oper.upon_enter]
  refine hC.mono ?_
  rintro _ w' ⟨v, rfl, hR⟩
  exact h v w' hR
end Go.Proofs.Ytlekjobicpnafaa.Base
