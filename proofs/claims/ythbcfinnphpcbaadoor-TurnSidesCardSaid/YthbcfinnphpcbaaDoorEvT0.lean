/- The TURN seat's environment (own work). -/
import Derived.Test.YthbcfinnphpcbaaDoorEvBod
set_option linter.unusedVariables false
set_option linter.unusedSimpArgs false
set_option linter.unnecessarySimpa false
set_option linter.unusedSectionVars false
namespace Go.Ev.T
open Go Go.Ev Go.Proofs
noncomputable def G : Nat → List Value := fun g => match g with | 0 => [.int .i64 1, .int .i64 0, .int .i64 0, .int .i64 0, .int .i64 1, .int .i64 0, .int .i64 0, .int .i64 0, .int .i64 1] | _ => []
noncomputable def En (l : List (Nat × Sum)) : Env := { P := Tryd.prog, G, fns := fun _ => none, call := look l, own := fun _ _ => false, N := 18446744073709551616 }
@[reducible] def vec (a b c : Int) : AVal := .agg [i a, i b, i c]
@[reducible] def mat (a1 a2 a3 a4 a5 a6 a7 a8 a9 : Int) : AVal := .agg [i a1, i a2, i a3, i a4, i a5, i a6, i a7, i a8, i a9]
@[reducible] def trn (a1 a2 a3 a4 a5 a6 a7 a8 a9 d : Int) : AVal := .agg [i a1, i a2, i a3, i a4, i a5, i a6, i a7, i a8, i a9, i d]
@[reducible] def u : AVal := .v (.tuple #[])
end Go.Ev.T
