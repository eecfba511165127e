/- Every function by its body, to a depth (own work). -/
import Derived.Test.YtblhkhjdkjjheaaEvDraw1
set_option linter.unusedVariables false
set_option linter.unusedSimpArgs false
set_option linter.unnecessarySimpa false
set_option linter.unusedSectionVars false
namespace Go.Ev
open Go

/-- the table of bodies is the program's -/
def FnsOk (E : Env) : Prop := ∀ f pf, E.fns f = some pf → ∃ fn, E.P.funcs[f]? = some fn ∧ fn.name ≠ "runtime.NumGoroutine" ∧ compile E.P fn = some pf

theorem callD_ok {E : Env} (hm : E.P.follows .mixedOrders = true) (hfns : FnsOk E) : ∀ (d : Nat) (f : FuncId), FnOk E.P E.G f (callD E d f)
  | 0, f => fun args blks r out h => by cases h
  | d + 1, f => by
    have ih := callD_ok hm hfns d
    have e : callD E (d + 1) f = fun args blks => match E.fns f with
      | some fn => runFn { E with call := callD E d } fn args blks
      | none => .fail := rfl
    rw [e]
    cases hf : E.fns f with
    | none => exact fun args blks r out h => by cases h
    | some pf =>
      obtain ⟨fn, h1, h2, h3⟩ := hfns f pf hf
      exact runFn_ok (E := { E with call := callD E d }) h1 h2 h3 ih (drawOk (E := { E with call := callD E d }) hm ih)
end Go.Ev
